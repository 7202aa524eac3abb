/- Our abstract program logic and contracts of this seat's functions, part 4: no statement of its own. -/
import Derived.Test.YthfoclblmdnckaaDoorM3
import Derived.Shelf.Strings.OnBuilder
import Derived.Shelf.Small.Strs
import Derived.Shelf.Strconv.Atoi
import Derived.Shelf.Strconv.Itoa3
import Derived.Shelf.Strings.Cut
import Derived.Shelf.Strings.Prefix
import Derived.Shelf.Strings.Split
import Derived.Shelf.LaysM
import Derived.Test.YthfoclblmdnckaaDoorProg
import Derived.KernelRfl
import Derived.MapKept
import Derived.WideLaws
import Derived.Lib.Join
import Derived.Lib.AtoiErrMem
import Derived.Lib.IndexLaws
import Derived.Lib.CountLaws
import Derived.Lib.SplitLaws
/- Contracts: the bounds of formats, on both sides. -/
set_option linter.unusedVariables false
set_option linter.unusedSimpArgs false
namespace Go.Proofs.YthfoclblmdnckaaDoor
open Go Go.Abs
abbrev xii (p : Int × Int) : X := .tup [.c (.i .i64 p.1), .c (.i .i64 p.2)]
abbrev xiie (p : Int × Int × Int) : X := .tup [.c (.i .i64 p.1), .c (.i .i64 p.2.1), .c (.i .i64 p.2.2)]
theorem xii_eq {a b : Int} {p : Int × Int} (h1 : a = p.1) (h2 : b = p.2) : X.tup [.c (.i .i64 a), .c (.i .i64 b)] = xii p := by rw [h1, h2]
theorem xiie_eq {a b c : Int} {p : Int × Int × Int} (h1 : a = p.1) (h2 : b = p.2.1) (h3 : c = p.2.2) : X.tup [.c (.i .i64 a), .c (.i .i64 b), .c (.i .i64 c)] = xiie p := by rw [h1, h2, h3]
theorem fbounds1_spec (t : List Fm) (f : Fd) (hf : FdOk f) (h5 : f.kind ≠ 5) : Ctr sys 41 [xtab t, xf f] [] (xii (bnd1 f)) none [] := by
  have hn := hf.n
  have hk := hf.k
  refine spec_intro Tryd.func41 rfl rfl rfl rfl rfl rfl ?_
  refine awp_seq (awp_region ?_)
  refine al_do rfl (does_box rfl rfl rfl rfl) ?_
  refine al_pure rfl rfl rfl (pure_assign rfl gU) ?_
  refine al_pure rfl rfl rfl (pure_assign rfl gU) ?_
  refine al_nil ?_
  refine awp_seq ?_
  refine awp_seq (awp_region ?_)
  refine al_pure rfl rfl rfl (pure_fieldPtr rfl gU rfl rfl) ?_
  refine al_pure rfl rfl rfl (pure_loadBox rfl gU rfl rfl rfl rfl) ?_
  refine al_nil ?_
  refine awp_sub (s := { t := [(0, _, _), (3, _, _), (13, _, _)], bx := [((.l 3), _)], ow := [] }) (sub_mk (⟨sx rfl, ⟨sx rfl, ⟨sx rfl, trivial⟩⟩⟩) (⟨sx rfl, trivial⟩) trivial) ?_
  refine awp_block ?_
  refine awp_seq (awp_region ?_)
  refine al_pure rfl rfl rfl (pure_cmp rfl rfl gU gU rfl) ?_
  refine al_pure rfl rfl rfl (pure_assign rfl gU) ?_
  refine al_nil ?_
  refine awp_cond rfl (fun hc => ?_) (fun hc => ?_)
  · try simp only [nn, Fm.rows_len, Fd.rows_len] at hc
    refine awp_seq ?_
    refine awp_drawn' (by kernel_rfl) ?_
    refine dr_pure rfl rfl rfl rfl (pure_fieldPtr rfl gU rfl rfl) ?_
    refine dr_load rfl rfl rfl rfl rfl rfl rfl gU rfl rfl rfl rfl ?_
    refine dr_pure rfl rfl rfl rfl (pure_lenS rfl gU (Tryd.underlying9)) ?_
    refine dr_pure rfl rfl rfl rfl (pure_fieldPtr rfl gU rfl rfl) ?_
    refine dr_load rfl rfl rfl rfl rfl rfl rfl gU rfl rfl rfl rfl ?_
    refine dr_pure rfl rfl rfl rfl (pure_lenS rfl gU (Tryd.underlying9)) ?_
    refine dr_pure rfl rfl rfl rfl (pure_assign rfl gU) ?_
    refine dr_pure rfl rfl rfl rfl (pure_assign rfl gU) ?_
    refine dr_nil (by kernel_rfl) ?_
    refine awp_ret ?_
    repeat (first | refine tR ?_ | refine bR ?_)
    refine ret_ok rfl ?_ trivial
    exact xii_eq (by simp [bnd1, *]) (by simp [bnd1, *])
  · try simp only [nn, Fm.rows_len, Fd.rows_len] at hc
    refine awp_seq (awp_region ?_)
    refine al_pure rfl rfl rfl (pure_cmp rfl rfl gU gU rfl) ?_
    refine al_pure rfl rfl rfl (pure_assign rfl gU) ?_
    refine al_nil ?_
    refine awp_cond rfl (fun hc2 => ?_) (fun hc2 => ?_)
    · try simp only [nn, Fm.rows_len, Fd.rows_len] at hc2
      refine awp_seq ?_
      refine awp_drawn' (by kernel_rfl) ?_
      refine dr_pure rfl rfl rfl rfl (pure_fieldPtr rfl gU rfl rfl) ?_
      refine dr_load rfl rfl rfl rfl rfl rfl rfl gU rfl rfl rfl rfl ?_
      refine dr_pure rfl rfl rfl rfl (pure_fieldPtr rfl gU rfl rfl) ?_
      refine dr_load rfl rfl rfl rfl rfl rfl rfl gU rfl rfl rfl rfl ?_
      refine dr_pure rfl rfl rfl rfl (pure_assign rfl gU) ?_
      refine dr_pure rfl rfl rfl rfl (pure_assign rfl gU) ?_
      refine dr_nil (by kernel_rfl) ?_
      refine awp_ret ?_
      repeat (first | refine tR ?_ | refine bR ?_)
      refine ret_ok rfl ?_ trivial
      exact xii_eq (by simp [bnd1, *]) (by simp [bnd1, *])
    · try simp only [nn, Fm.rows_len, Fd.rows_len] at hc2
      refine awp_seq (awp_region ?_)
      refine al_pure rfl rfl rfl (pure_cmp rfl rfl gU gU rfl) ?_
      refine al_pure rfl rfl rfl (pure_assign rfl gU) ?_
      refine al_nil ?_
      refine awp_sub (s := { t := [(0, _, _), (3, _, _), (13, _, _), (28, _, _)], bx := [((.l 3), _)], ow := [] }) (sub_mk (⟨sx rfl, ⟨sx rfl, ⟨sx rfl, ⟨sx rfl, trivial⟩⟩⟩⟩) (⟨sx rfl, trivial⟩) trivial) ?_
      refine awp_cond rfl (fun hc3 => ?_) (fun hc3 => ?_)
      · try simp only [nn, Fm.rows_len, Fd.rows_len] at hc3
        refine awp_seq ?_
        refine awp_drawn' (by kernel_rfl) ?_
        refine dr_pure rfl rfl rfl rfl (pure_fieldPtr rfl gU rfl rfl) ?_
        refine dr_load rfl rfl rfl rfl rfl rfl rfl gU rfl rfl rfl rfl ?_
        refine dr_pure rfl rfl rfl rfl (pure_arith rfl rfl gU gU rfl (IntWalk.i64_in _ (by omega))) ?_
        refine dr_pure rfl rfl rfl rfl (pure_assign rfl gU) ?_
        refine dr_pure rfl rfl rfl rfl (pure_assign rfl gU) ?_
        refine dr_nil (by kernel_rfl) ?_
        refine awp_ret ?_
        repeat (first | refine tR ?_ | refine bR ?_)
        refine ret_ok rfl ?_ trivial
        exact xii_eq (by simp [bnd1, *]) (by simp [bnd1, *])
      · try simp only [nn, Fm.rows_len, Fd.rows_len] at hc3
        refine awp_seq (awp_region ?_)
        refine al_pure rfl rfl rfl (pure_cmp rfl rfl gU gU rfl) ?_
        refine al_pure rfl rfl rfl (pure_assign rfl gU) ?_
        refine al_nil ?_
        refine awp_cond rfl (fun hc4 => ?_) (fun hc4 => ?_)
        · try simp only [nn, Fm.rows_len, Fd.rows_len] at hc4
          exact absurd hc4 h5
        · try simp only [nn, Fm.rows_len, Fd.rows_len] at hc4
          refine awp_seq (awp_region ?_)
          refine al_pure rfl rfl rfl (pure_cmp rfl rfl gU gU rfl) ?_
          refine al_pure rfl rfl rfl (pure_assign rfl gU) ?_
          refine al_nil ?_
          refine awp_cond rfl (fun hc1 => ?_) (fun hc1 => ?_)
          · try simp only [nn, Fm.rows_len, Fd.rows_len] at hc1
            refine awp_seq ?_
            refine awp_drawn' (by kernel_rfl) ?_
            refine dr_pure rfl rfl rfl rfl (pure_fieldPtr rfl gU rfl rfl) ?_
            refine dr_load rfl rfl rfl rfl rfl rfl rfl gU rfl rfl rfl rfl ?_
            refine dr_pure rfl rfl rfl rfl (pure_fieldPtr rfl gU rfl rfl) ?_
            refine dr_load rfl rfl rfl rfl rfl rfl rfl gU rfl rfl rfl rfl ?_
            refine dr_pure rfl rfl rfl rfl (pure_assign rfl gU) ?_
            refine dr_pure rfl rfl rfl rfl (pure_assign rfl gU) ?_
            refine dr_nil (by kernel_rfl) ?_
            refine awp_ret ?_
            repeat (first | refine tR ?_ | refine bR ?_)
            refine ret_ok rfl ?_ trivial
            exact xii_eq (by simp [bnd1, *]) (by simp [bnd1, *])
          · try simp only [nn, Fm.rows_len, Fd.rows_len] at hc1
            refine awp_skip ?_
            refine awp_seq (awp_region ?_)
            refine al_pure rfl rfl rfl (pure_assign rfl gU) ?_
            refine al_pure rfl rfl rfl (pure_assign rfl gU) ?_
            refine al_nil ?_
            refine awp_ret ?_
            repeat (first | refine tR ?_ | refine bR ?_)
            refine ret_ok rfl ?_ trivial
            exact xii_eq (by simp [bnd1, *]) (by simp [bnd1, *])
theorem fbounds_spec (t : List Fm) (f : Fd) (hf : FdOk f) (hnest : f.kind = 5 → f.n < t.length ∧ Plain1 (t.getD f.n.toNat default).fields) : Ctr sys 41 [xtab t, xf f] [] (xii (bndF (bnd0 t) f)) none [] := by
  by_cases h5 : f.kind = 5
  · obtain ⟨h1, h2⟩ := hnest h5
    have hn := hf.n
    have hrl := Fm.rows_len t
    have hrf := Fd.rows_len (t.getD f.n.toNat default).fields
    refine spec_intro Tryd.func41 rfl rfl rfl rfl rfl rfl ?_
    refine awp_seq (awp_region ?_)
    refine al_do rfl (does_box rfl rfl rfl rfl) ?_
    refine al_pure rfl rfl rfl (pure_assign rfl gU) ?_
    refine al_pure rfl rfl rfl (pure_assign rfl gU) ?_
    refine al_nil ?_
    refine awp_seq ?_
    refine awp_seq (awp_region ?_)
    refine al_pure rfl rfl rfl (pure_fieldPtr rfl gU rfl rfl) ?_
    refine al_pure rfl rfl rfl (pure_loadBox rfl gU rfl rfl rfl rfl) ?_
    refine al_nil ?_
    refine awp_sub (s := { t := [(0, _, _), (3, _, _), (13, _, _)], bx := [((.l 3), _)], ow := [] }) (sub_mk (⟨sx rfl, ⟨sx rfl, ⟨sx rfl, trivial⟩⟩⟩) (⟨sx rfl, trivial⟩) trivial) ?_
    refine awp_block ?_
    refine awp_seq (awp_region ?_)
    refine al_pure rfl rfl rfl (pure_cmp rfl rfl gU gU rfl) ?_
    refine al_pure rfl rfl rfl (pure_assign rfl gU) ?_
    refine al_nil ?_
    refine awp_cond rfl (fun hc => ?_) (fun hc => ?_)
    · try simp only [nn, Fm.rows_len, Fd.rows_len] at hc
      exfalso; omega
    · try simp only [nn, Fm.rows_len, Fd.rows_len] at hc
      refine awp_seq (awp_region ?_)
      refine al_pure rfl rfl rfl (pure_cmp rfl rfl gU gU rfl) ?_
      refine al_pure rfl rfl rfl (pure_assign rfl gU) ?_
      refine al_nil ?_
      refine awp_cond rfl (fun hc2 => ?_) (fun hc2 => ?_)
      · try simp only [nn, Fm.rows_len, Fd.rows_len] at hc2
        exfalso; omega
      · try simp only [nn, Fm.rows_len, Fd.rows_len] at hc2
        refine awp_seq (awp_region ?_)
        refine al_pure rfl rfl rfl (pure_cmp rfl rfl gU gU rfl) ?_
        refine al_pure rfl rfl rfl (pure_assign rfl gU) ?_
        refine al_nil ?_
        refine awp_sub (s := { t := [(0, _, _), (3, _, _), (13, _, _), (28, _, _)], bx := [((.l 3), _)], ow := [] }) (sub_mk (⟨sx rfl, ⟨sx rfl, ⟨sx rfl, ⟨sx rfl, trivial⟩⟩⟩⟩) (⟨sx rfl, trivial⟩) trivial) ?_
        refine awp_cond rfl (fun hc3 => ?_) (fun hc3 => ?_)
        · try simp only [nn, Fm.rows_len, Fd.rows_len] at hc3
          exfalso; omega
        · try simp only [nn, Fm.rows_len, Fd.rows_len] at hc3
          refine awp_seq (awp_region ?_)
          refine al_pure rfl rfl rfl (pure_cmp rfl rfl gU gU rfl) ?_
          refine al_pure rfl rfl rfl (pure_assign rfl gU) ?_
          refine al_nil ?_
          refine awp_cond rfl (fun hc4 => ?_) (fun hc4 => ?_)
          · try simp only [nn, Fm.rows_len, Fd.rows_len] at hc4
            refine awp_seq (awp_region ?_)
            refine al_pure rfl rfl rfl (pure_assign rfl gU) ?_
            refine al_pure rfl rfl rfl (pure_assign rfl gU) ?_
            refine al_nil ?_
            refine awp_seq ?_
            refine awp_seq (awp_region ?_)
            refine al_pure rfl rfl rfl (pure_move rfl gU) ?_
            refine al_pure rfl rfl rfl (pure_fieldPtr rfl gU rfl rfl) ?_
            refine al_pure rfl rfl rfl (pure_loadBox rfl gU rfl rfl rfl rfl) ?_
            refine al_pure rfl rfl rfl (pure_indexAddr (j := f.n.toNat) rfl rfl gU gU rfl rfl (by omega) (fun hh => Fm.rows_at (by omega))) ?_
            refine al_pure rfl rfl rfl (pure_fieldRo rfl gU rfl rfl) ?_
            refine al_pure rfl rfl rfl (pure_loadRo rfl gU rfl rfl rfl) ?_
            refine al_lenSl rfl rfl rfl rfl rfl gU rfl rfl ?_ (fun hh => by simp at hh); intro hlen
            refine al_pure rfl rfl rfl (pure_move rfl gU) ?_
            refine al_nil ?_
            refine awp_sub (s := { t := [(0, _, _), (6, _, _), (7, _, _), (40, _, _), (41, _, _), (42, _, _)], bx := [], ow := [] }) (sub_mk (⟨sx rfl, ⟨sx rfl, ⟨sx rfl, ⟨sx rfl, ⟨sx rfl, ⟨sx rfl, trivial⟩⟩⟩⟩⟩⟩) trivial trivial) ?_
            refine awp_block ?_
            refine awp_for (ι := Nat) { t := [(0, _, _), (40, _, _), (41, _, _)], bx := [], ow := [] } (fun k => [(42, true, xi (k : Int)), (6, true, xi (1 + (bndL (fun _ => (0, 0)) ((t.getD f.n.toNat default).fields.take k)).1)), (7, true, xi (1 + (bndL (fun _ => (0, 0)) ((t.getD f.n.toNat default).fields.take k)).2))]) (fun k => []) (fun k => k ≤ (t.getD f.n.toNat default).fields.length) (fun k => (t.getD f.n.toNat default).fields.length - k) (0) (by simp) (sub_mk (⟨sx rfl, ⟨sx rfl, ⟨sx rfl, ⟨sx rfl, ⟨sx rfl, ⟨sx rfl, trivial⟩⟩⟩⟩⟩⟩) trivial trivial) ?_
            intro k hok
            dsimp only [List.cons_append, List.nil_append]
            have hb := h2.bnd (rec := fun _ => (0, 0)) k
            refine awp_seq (awp_region ?_)
            refine al_pure rfl rfl rfl (pure_cmp rfl rfl gU gU rfl) ?_
            refine al_nil ?_
            refine awp_seq ?_
            refine awp_cond rfl (fun hc5 => ?_) (fun hc5 => ?_)
            · have hc5 : k < (t.getD f.n.toNat default).fields.length := by simp only [decide_eq_true_eq, hrf] at hc5; omega
              obtain ⟨q1, q2⟩ := bndL_take (rec := fun _ => (0, 0)) hc5
              have hb' := h2.bnd (rec := fun _ => (0, 0)) (k + 1)
              have hbe := bndF_eq (rec := fun _ => (0, 0)) (h2.ok k hc5).2.1
              have hb1 := bnd1_le (h2.ok k hc5).1
              rw [hbe] at q1 q2
              refine awp_skip ?_
              refine awp_seq ?_
              refine awp_block ?_
              refine awp_seq (awp_region ?_)
              refine al_pure rfl rfl rfl (pure_indexAddr rfl rfl gU gU rfl rfl rfl (fun hh => Fd.rows_at (by omega))) ?_
              refine al_pure rfl rfl rfl (pure_loadRoRow rfl gU rfl rfl rfl rfl) ?_
              refine al_do rfl (does_alloc rfl rfl rfl) ?_
              refine al_do rfl (does_store rfl rfl rfl rfl rfl rfl rfl) ?_
              refine al_nil ?_
              refine awp_seq (awp_region ?_)
              refine al_pure rfl rfl rfl (pure_move rfl gU) ?_
              refine al_pure rfl rfl rfl (pure_loadBoxRow rfl gU rfl rfl rfl rfl rfl) ?_
              refine al_call rfl rfl rfl rfl rfl rfl gU gU (fbounds1_spec _ _ (h2.ok k hc5).1 (h2.ok k hc5).2.1) rfl ?_
              refine al_pure rfl rfl rfl (pure_move rfl gU) ?_
              refine al_pure rfl rfl rfl (pure_extract rfl gU rfl) ?_
              refine al_pure rfl rfl rfl (pure_extract rfl gU rfl) ?_
              refine al_pure rfl rfl rfl (pure_assign rfl gU) ?_
              refine al_pure rfl rfl rfl (pure_assign rfl gU) ?_
              refine al_nil ?_
              refine awp_sub (s := { t := [(0, _, _), (6, _, _), (7, _, _), (10, _, _), (11, _, _), (40, _, _), (41, _, _), (42, _, _)], bx := [], ow := [] }) (sub_mk (⟨sx rfl, ⟨sx rfl, ⟨sx rfl, ⟨sx rfl, ⟨sx rfl, ⟨sx rfl, ⟨sx rfl, ⟨sx rfl, trivial⟩⟩⟩⟩⟩⟩⟩⟩) trivial trivial) ?_
              refine awp_region ?_
              refine al_pure rfl rfl rfl (pure_move rfl gU) ?_
              refine al_pure rfl rfl rfl (pure_move rfl gU) ?_
              refine al_pure rfl rfl rfl (pure_arith rfl rfl gU gU rfl (IntWalk.i64_in _ (by omega))) ?_
              refine al_pure rfl rfl rfl (pure_move rfl gU) ?_
              refine al_pure rfl rfl rfl (pure_move rfl gU) ?_
              refine al_pure rfl rfl rfl (pure_arith rfl rfl gU gU rfl (IntWalk.i64_in _ (by omega))) ?_
              refine al_pure rfl rfl rfl (pure_assign rfl gU) ?_
              refine al_pure rfl rfl rfl (pure_assign rfl gU) ?_
              refine al_nil ?_
              refine awp_sub (s := { t := [(0, _, _), (6, _, _), (7, _, _), (40, _, _), (41, _, _), (42, _, _)], bx := [], ow := [] }) (sub_mk (⟨sx rfl, ⟨sx rfl, ⟨sx rfl, ⟨sx rfl, ⟨sx rfl, ⟨sx rfl, trivial⟩⟩⟩⟩⟩⟩) trivial trivial) ?_
              refine awp_region ?_
              refine al_pure rfl rfl rfl (pure_arith rfl rfl gU gU rfl (IntWalk.i64_in _ (by omega))) ?_
              refine al_pure rfl rfl rfl (pure_move rfl gU) ?_
              refine al_nil ?_
              refine ⟨k + 1, ?_, ?_, sub_mk (⟨⟨_, rfl, ?_⟩, ⟨⟨_, rfl, ?_⟩, ⟨⟨_, rfl, ?_⟩, ⟨sx rfl, ⟨sx rfl, ⟨sx rfl, trivial⟩⟩⟩⟩⟩⟩) trivial trivial⟩
              all_goals (first | omega | rfl | exact tx (xi_eq (by omega)))
            · try simp only [nn, Fm.rows_len, Fd.rows_len] at hc5
              refine awp_exit ?_
              repeat (first | refine thenS_exit ?_ | refine blockS_hit ?_ | refine blockS_miss rfl ?_)
              refine awp_seq (awp_region ?_)
              refine al_pure rfl rfl rfl (pure_move rfl gU) ?_
              refine al_pure rfl rfl rfl (pure_move rfl gU) ?_
              refine al_pure rfl rfl rfl (pure_assign rfl gU) ?_
              refine al_pure rfl rfl rfl (pure_assign rfl gU) ?_
              refine al_nil ?_
              refine awp_ret ?_
              repeat (first | refine tR ?_ | refine bR ?_)
              refine ret_ok rfl ?_ trivial
              have : k = (t.getD f.n.toNat default).fields.length := by omega
              rw [this, List.take_length]
              exact xii_eq (by rw [bndF, if_pos h5]; rfl) (by rw [bndF, if_pos h5]; rfl)
          · try simp only [nn, Fm.rows_len, Fd.rows_len] at hc4
            exact absurd h5 hc4
  · rw [bndF_eq h5]
    exact fbounds1_spec t f hf h5
theorem fBounds_spec (t : List Fm) (i : Int) : Ctr sys 21 [xtab t, xi i] [] (xiie (boundsE t i)) none [] := by
  have hrl := Fm.rows_len t
  refine spec_intro Tryd.func21 rfl rfl rfl rfl rfl rfl ?_
  refine awp_seq (awp_region ?_)
  refine al_pure rfl rfl rfl (pure_assign rfl gU) ?_
  refine al_pure rfl rfl rfl (pure_assign rfl gU) ?_
  refine al_pure rfl rfl rfl (pure_assign rfl gU) ?_
  refine al_nil ?_
  refine awp_seq ?_
  refine awp_seq (awp_region ?_)
  refine al_pure rfl rfl rfl (pure_move rfl gU) ?_
  refine al_call rfl rfl rfl rfl rfl rfl gU gU (fValid_spec _) rfl ?_
  refine al_pure rfl rfl rfl (pure_assign rfl gU) ?_
  refine al_nil ?_
  refine awp_sub (s := { t := [(0, _, _), (1, _, _), (7, _, _)], bx := [], ow := [] }) (sub_mk (⟨sx rfl, ⟨sx rfl, ⟨sx rfl, trivial⟩⟩⟩) trivial trivial) ?_
  refine awp_seq (awp_region ?_)
  refine al_pure rfl rfl rfl (pure_move rfl gU) ?_
  refine al_pure rfl rfl rfl (pure_cmp rfl rfl gU gU rfl) ?_
  refine al_nil ?_
  refine awp_cond rfl (fun hc => ?_) (fun hc => ?_)
  · try simp only [nn, Fm.rows_len, Fd.rows_len] at hc
    refine awp_seq (awp_region ?_)
    refine al_pure rfl rfl rfl (pure_move rfl gU) ?_
    refine al_pure rfl rfl rfl (pure_assign rfl gU) ?_
    refine al_pure rfl rfl rfl (pure_assign rfl gU) ?_
    refine al_pure rfl rfl rfl (pure_assign rfl gU) ?_
    refine al_nil ?_
    refine awp_ret ?_
    repeat (first | refine tR ?_ | refine bR ?_)
    refine ret_ok rfl ?_ trivial
    exact xiie_eq (by simp [boundsE, errE, hc]) (by simp [boundsE, errE, hc]) (by simp [boundsE, errE, hc])
  · try simp only [nn, Fm.rows_len, Fd.rows_len] at hc
    refine awp_skip ?_
    refine awp_seq ?_
    refine awp_seq (awp_region ?_)
    refine al_pure rfl rfl rfl (pure_move rfl gU) ?_
    refine al_pure rfl rfl rfl (pure_cmp rfl rfl gU gU rfl) ?_
    refine al_pure rfl rfl rfl (pure_move rfl gU) ?_
    refine al_pure rfl rfl rfl (pure_move rfl gU) ?_
    refine al_pure rfl rfl rfl (pure_move rfl gU) ?_
    refine al_pure rfl rfl rfl (pure_lenSl rfl (fun hh => hh) rfl rfl) ?_
    refine al_pure rfl rfl rfl (pure_cmp rfl rfl (fun hh => hh) (fun hh => hh) rfl) ?_
    refine al_pure rfl rfl rfl (pure_or rfl rfl gU (fun _ hi => gP rfl hi)) ?_
    refine al_nil ?_
    refine awp_sub (s := { t := [(0, _, _), (1, _, _), (26, _, _)], bx := [], ow := [] }) (sub_mk (⟨sx rfl, ⟨sx rfl, ⟨sx rfl, trivial⟩⟩⟩) trivial trivial) ?_
    refine awp_cond rfl (fun hc2 => ?_) (fun hc2 => ?_)
    · try simp only [nn, Fm.rows_len, Fd.rows_len] at hc2
      have he : errE t i = 7 := by rw [errE, if_neg (by omega), if_pos (by omega)]
      refine awp_seq (awp_region ?_)
      refine al_pure rfl rfl rfl (pure_assign rfl gU) ?_
      refine al_pure rfl rfl rfl (pure_assign rfl gU) ?_
      refine al_pure rfl rfl rfl (pure_assign rfl gU) ?_
      refine al_nil ?_
      refine awp_ret ?_
      repeat (first | refine tR ?_ | refine bR ?_)
      refine ret_ok rfl ?_ trivial
      exact xiie_eq (by simp [boundsE, *]) (by simp [boundsE, *]) (by simp [boundsE, *])
    · try simp only [nn, Fm.rows_len, Fd.rows_len] at hc2
      have he : errE t i = 0 := by rw [errE, if_neg (by omega), if_neg (by omega)]
      obtain ⟨ht, _, _⟩ := errE_zero he
      have hfs := ht.fds (i := i.toNat) (by omega)
      have hrf := Fd.rows_len (t.getD i.toNat default).fields
      refine awp_skip ?_
      refine awp_seq (awp_region ?_)
      refine al_pure rfl rfl rfl (pure_assign rfl gU) ?_
      refine al_pure rfl rfl rfl (pure_assign rfl gU) ?_
      refine al_nil ?_
      refine awp_seq ?_
      refine awp_seq (awp_region ?_)
      refine al_pure rfl rfl rfl (pure_move rfl gU) ?_
      refine al_pure rfl rfl rfl (pure_move rfl gU) ?_
      refine al_pure rfl rfl rfl (pure_indexAddr (j := i.toNat) rfl rfl gU gU rfl rfl (by omega) (fun hh => Fm.rows_at (by omega))) ?_
      refine al_pure rfl rfl rfl (pure_fieldRo rfl gU rfl rfl) ?_
      refine al_pure rfl rfl rfl (pure_loadRo rfl gU rfl rfl rfl) ?_
      refine al_lenSl rfl rfl rfl rfl rfl gU rfl rfl ?_ (fun hh => by simp at hh); intro hlen
      refine al_pure rfl rfl rfl (pure_move rfl gU) ?_
      refine al_nil ?_
      refine awp_sub (s := { t := [(0, _, _), (8, _, _), (9, _, _), (31, _, _), (32, _, _), (33, _, _)], bx := [], ow := [] }) (sub_mk (⟨sx rfl, ⟨sx rfl, ⟨sx rfl, ⟨sx rfl, ⟨sx rfl, ⟨sx rfl, trivial⟩⟩⟩⟩⟩⟩) trivial trivial) ?_
      refine awp_block ?_
      refine awp_for (ι := Nat) { t := [(0, _, _), (31, _, _), (32, _, _)], bx := [], ow := [] } (fun k => [(33, true, xi (k : Int)), (8, true, xi (bndL (bnd0 t) ((t.getD i.toNat default).fields.take k)).1), (9, true, xi (bndL (bnd0 t) ((t.getD i.toNat default).fields.take k)).2)]) (fun k => []) (fun k => k ≤ (t.getD i.toNat default).fields.length) (fun k => (t.getD i.toNat default).fields.length - k) (0) (by simp) (sub_mk (⟨sx rfl, ⟨sx rfl, ⟨sx rfl, ⟨sx rfl, ⟨sx rfl, ⟨sx rfl, trivial⟩⟩⟩⟩⟩⟩) trivial trivial) ?_
      intro k hok
      dsimp only [List.cons_append, List.nil_append]
      have hb := hfs.bnd k
      refine awp_seq (awp_region ?_)
      refine al_pure rfl rfl rfl (pure_cmp rfl rfl gU gU rfl) ?_
      refine al_nil ?_
      refine awp_seq ?_
      refine awp_cond rfl (fun hc3 => ?_) (fun hc3 => ?_)
      · have hc3 : k < (t.getD i.toNat default).fields.length := by simp only [decide_eq_true_eq, hrf] at hc3; omega
        obtain ⟨q1, q2⟩ := bndL_take (rec := bnd0 t) hc3
        have hb' := hfs.bnd (k + 1)
        have hb1 := hfs.bndF hc3
        refine awp_skip ?_
        refine awp_seq ?_
        refine awp_block ?_
        refine awp_seq (awp_region ?_)
        refine al_pure rfl rfl rfl (pure_indexAddr rfl rfl gU gU rfl rfl rfl (fun hh => Fd.rows_at (by omega))) ?_
        refine al_pure rfl rfl rfl (pure_loadRoRow rfl gU rfl rfl rfl rfl) ?_
        refine al_do rfl (does_alloc rfl rfl rfl) ?_
        refine al_do rfl (does_store rfl rfl rfl rfl rfl rfl rfl) ?_
        refine al_nil ?_
        refine awp_seq (awp_region ?_)
        refine al_pure rfl rfl rfl (pure_move rfl gU) ?_
        refine al_pure rfl rfl rfl (pure_loadBoxRow rfl gU rfl rfl rfl rfl rfl) ?_
        refine al_call rfl rfl rfl rfl rfl rfl gU gU (fbounds_spec _ _ (hfs.ok k hc3) (hfs.nest k hc3)) rfl ?_
        refine al_pure rfl rfl rfl (pure_move rfl gU) ?_
        refine al_pure rfl rfl rfl (pure_extract rfl gU rfl) ?_
        refine al_pure rfl rfl rfl (pure_extract rfl gU rfl) ?_
        refine al_pure rfl rfl rfl (pure_assign rfl gU) ?_
        refine al_pure rfl rfl rfl (pure_assign rfl gU) ?_
        refine al_nil ?_
        refine awp_sub (s := { t := [(0, _, _), (8, _, _), (9, _, _), (12, _, _), (13, _, _), (31, _, _), (32, _, _), (33, _, _)], bx := [], ow := [] }) (sub_mk (⟨sx rfl, ⟨sx rfl, ⟨sx rfl, ⟨sx rfl, ⟨sx rfl, ⟨sx rfl, ⟨sx rfl, ⟨sx rfl, trivial⟩⟩⟩⟩⟩⟩⟩⟩) trivial trivial) ?_
        refine awp_region ?_
        refine al_pure rfl rfl rfl (pure_move rfl gU) ?_
        refine al_pure rfl rfl rfl (pure_move rfl gU) ?_
        refine al_pure rfl rfl rfl (pure_arith rfl rfl gU gU rfl (IntWalk.i64_in _ (by omega))) ?_
        refine al_pure rfl rfl rfl (pure_move rfl gU) ?_
        refine al_pure rfl rfl rfl (pure_move rfl gU) ?_
        refine al_pure rfl rfl rfl (pure_arith rfl rfl gU gU rfl (IntWalk.i64_in _ (by omega))) ?_
        refine al_pure rfl rfl rfl (pure_assign rfl gU) ?_
        refine al_pure rfl rfl rfl (pure_assign rfl gU) ?_
        refine al_nil ?_
        refine awp_sub (s := { t := [(0, _, _), (8, _, _), (9, _, _), (31, _, _), (32, _, _), (33, _, _)], bx := [], ow := [] }) (sub_mk (⟨sx rfl, ⟨sx rfl, ⟨sx rfl, ⟨sx rfl, ⟨sx rfl, ⟨sx rfl, trivial⟩⟩⟩⟩⟩⟩) trivial trivial) ?_
        refine awp_region ?_
        refine al_pure rfl rfl rfl (pure_arith rfl rfl gU gU rfl (IntWalk.i64_in _ (by omega))) ?_
        refine al_pure rfl rfl rfl (pure_move rfl gU) ?_
        refine al_nil ?_
        refine ⟨k + 1, ?_, ?_, sub_mk (⟨⟨_, rfl, ?_⟩, ⟨⟨_, rfl, ?_⟩, ⟨⟨_, rfl, ?_⟩, ⟨sx rfl, ⟨sx rfl, ⟨sx rfl, trivial⟩⟩⟩⟩⟩⟩) trivial trivial⟩
        all_goals (first | omega | rfl | exact tx (xi_eq (by omega)))
      · try simp only [nn, Fm.rows_len, Fd.rows_len] at hc3
        refine awp_exit ?_
        repeat (first | refine thenS_exit ?_ | refine blockS_hit ?_ | refine blockS_miss rfl ?_)
        refine awp_seq (awp_region ?_)
        refine al_pure rfl rfl rfl (pure_move rfl gU) ?_
        refine al_pure rfl rfl rfl (pure_move rfl gU) ?_
        refine al_pure rfl rfl rfl (pure_assign rfl gU) ?_
        refine al_pure rfl rfl rfl (pure_assign rfl gU) ?_
        refine al_pure rfl rfl rfl (pure_assign rfl gU) ?_
        refine al_nil ?_
        refine awp_ret ?_
        repeat (first | refine tR ?_ | refine bR ?_)
        refine ret_ok rfl ?_ trivial
        have : k = (t.getD i.toNat default).fields.length := by omega
        rw [this, List.take_length]
        refine xiie_eq ?_ ?_ ?_
        all_goals (rw [boundsE, if_neg (by omega)]; try rfl)
theorem bndF_cases (rec : Int → Int × Int) (f : Fd) : (f.kind = 1 → (bndF rec f).1 = f.bytes.length ∧ (bndF rec f).2 = f.bytes.length) ∧ (f.kind = 2 → (bndF rec f).1 = f.n ∧ (bndF rec f).2 = f.n) ∧
    (f.kind = 3 → (bndF rec f).1 = 1 ∧ (bndF rec f).2 = 1 + f.n) ∧ (f.kind = 4 → (bndF rec f).1 = 1 ∧ (bndF rec f).2 = 1) ∧ (f.kind = 5 → (bndF rec f).1 = 1 + (rec f.n).1 ∧ (bndF rec f).2 = 1 + (rec f.n).2) ∧
    (f.kind = 6 → (bndF rec f).1 = f.low ∧ (bndF rec f).2 = f.high) := by
  refine ⟨?_, ?_, ?_, ?_, ?_, ?_⟩ <;> (intro h; simp [bndF, bnd1, h])
theorem rlen_gen (t : List Fm) (i : Int) (rec : Int → Int × Int) (hi : 0 ≤ i ∧ i < t.length) (hlen : (t.getD i.toNat default).fields.length ≤ 6)
    (hfd : ∀ k, k < (t.getD i.toNat default).fields.length → FdOk ((t.getD i.toNat default).fields.getD k default))
    (hbd : ∀ k, 0 ≤ (bndL rec ((t.getD i.toNat default).fields.take k)).1 ∧ (bndL rec ((t.getD i.toNat default).fields.take k)).1 ≤ (bndL rec ((t.getD i.toNat default).fields.take k)).2 ∧ (bndL rec ((t.getD i.toNat default).fields.take k)).2 ≤ 42000)
    (hb1 : ∀ k, k < (t.getD i.toNat default).fields.length → 0 ≤ (bndF rec ((t.getD i.toNat default).fields.getD k default)).1 ∧ (bndF rec ((t.getD i.toNat default).fields.getD k default)).1 ≤ (bndF rec ((t.getD i.toNat default).fields.getD k default)).2 ∧ (bndF rec ((t.getD i.toNat default).fields.getD k default)).2 ≤ 7000)
    (hrec : ∀ k, k < (t.getD i.toNat default).fields.length → ((t.getD i.toNat default).fields.getD k default).kind = 5 → Ctr sys 43 [xtab t, xi ((t.getD i.toNat default).fields.getD k default).n] [] (xii (rec ((t.getD i.toNat default).fields.getD k default).n)) none []) :
    Ctr sys 43 [xtab t, xi i] [] (xii (bndL rec (t.getD i.toNat default).fields)) none [] := by
  have hrl := Fm.rows_len t
  have hrf := Fd.rows_len (t.getD i.toNat default).fields
  refine spec_intro Tryd.func43 rfl rfl rfl rfl rfl rfl ?_
  refine awp_seq (awp_region ?_)
  refine al_pure rfl rfl rfl (pure_assign rfl gU) ?_
  refine al_pure rfl rfl rfl (pure_assign rfl gU) ?_
  refine al_nil ?_
  refine awp_seq (awp_region ?_)
  refine al_pure rfl rfl rfl (pure_assign rfl gU) ?_
  refine al_pure rfl rfl rfl (pure_assign rfl gU) ?_
  refine al_nil ?_
  refine awp_seq ?_
  refine awp_seq (awp_region ?_)
  refine al_pure rfl rfl rfl (pure_assign rfl gU) ?_
  refine al_nil ?_
  refine awp_sub (s := { t := [(0, _, _), (1, _, _), (6, _, _), (7, _, _), (8, _, _)], bx := [], ow := [] }) (sub_mk (⟨sx rfl, ⟨sx rfl, ⟨sx rfl, ⟨sx rfl, ⟨sx rfl, trivial⟩⟩⟩⟩⟩) trivial trivial) ?_
  refine awp_block ?_
  refine awp_for (ι := Nat) { t := [(0, _, _), (1, _, _)], bx := [], ow := [] } (fun k => [(8, true, xi (k : Int)), (6, true, xi (bndL rec ((t.getD i.toNat default).fields.take k)).1), (7, true, xi (bndL rec ((t.getD i.toNat default).fields.take k)).2)]) (fun k => []) (fun k => k ≤ (t.getD i.toNat default).fields.length) (fun k => (t.getD i.toNat default).fields.length - k) (0) (by simp) (sub_mk (⟨sx rfl, ⟨sx rfl, ⟨sx rfl, ⟨sx rfl, ⟨sx rfl, trivial⟩⟩⟩⟩⟩) trivial trivial) ?_
  intro k hok
  dsimp only [List.cons_append, List.nil_append]
  have hb := hbd k
  refine awp_seq ?_
  refine awp_seq (awp_region ?_)
  refine al_pure rfl rfl rfl (pure_move rfl gU) ?_
  refine al_pure rfl rfl rfl (pure_move rfl gU) ?_
  refine al_pure rfl rfl rfl (pure_move rfl gU) ?_
  refine al_pure rfl rfl rfl (pure_indexAddr (j := i.toNat) rfl rfl gU gU rfl rfl (by omega) (fun hh => Fm.rows_at (by omega))) ?_
  refine al_pure rfl rfl rfl (pure_fieldRo rfl gU rfl rfl) ?_
  refine al_pure rfl rfl rfl (pure_loadRo rfl gU rfl rfl rfl) ?_
  refine al_lenSl rfl rfl rfl rfl rfl gU rfl rfl ?_ (fun hh => by simp at hh); intro hlen
  refine al_pure rfl rfl rfl (pure_cmp rfl rfl gU gU rfl) ?_
  refine al_nil ?_
  refine awp_sub (s := { t := [(0, _, _), (1, _, _), (6, _, _), (7, _, _), (8, _, _), (19, _, _)], bx := [], ow := [] }) (sub_mk (⟨sx rfl, ⟨sx rfl, ⟨sx rfl, ⟨sx rfl, ⟨sx rfl, ⟨sx rfl, trivial⟩⟩⟩⟩⟩⟩) trivial trivial) ?_
  refine awp_cond rfl (fun hc => ?_) (fun hc => ?_)
  · try simp only [nn, Fm.rows_len, Fd.rows_len] at hc
    obtain ⟨q1, q2⟩ := bndL_take (rec := rec) (l := (t.getD i.toNat default).fields) (k := k) (by omega)
    have hb' := hbd (k + 1)
    have hb1' := hb1 k (by omega)
    have hfk := hfd k (by omega)
    obtain ⟨f1, f2, f3, f4, f5, f6, _⟩ := hfk
    obtain ⟨c1, c2, c3, c4, c5, c6⟩ := bndF_cases rec ((t.getD i.toNat default).fields.getD k default)
    refine awp_skip ?_
    refine awp_seq ?_
    refine awp_block ?_
    refine awp_seq (awp_region ?_)
    refine al_pure rfl rfl rfl (pure_move rfl gU) ?_
    refine al_pure rfl rfl rfl (pure_move rfl gU) ?_
    refine al_pure rfl rfl rfl (pure_indexAddr (j := i.toNat) rfl rfl gU gU rfl rfl (by omega) (fun hh => Fm.rows_at (by omega))) ?_
    refine al_pure rfl rfl rfl (pure_fieldRo rfl gU rfl rfl) ?_
    refine al_pure rfl rfl rfl (pure_loadRo rfl gU rfl rfl rfl) ?_
    refine al_pure rfl rfl rfl (pure_move rfl gU) ?_
    refine al_pure rfl rfl rfl (pure_indexAddr rfl rfl gU gU rfl rfl rfl (fun hh => Fd.rows_at (by omega))) ?_
    refine al_pure rfl rfl rfl (pure_loadRoRow rfl gU rfl rfl rfl rfl) ?_
    refine al_do rfl (does_alloc rfl rfl rfl) ?_
    refine al_do rfl (does_store rfl rfl rfl rfl rfl rfl rfl) ?_
    refine al_nil ?_
    refine awp_sub (s := { t := [(0, _, _), (1, _, _), (6, _, _), (7, _, _), (8, _, _), (9, _, _)], bx := [((.l 9), _)], ow := [] }) (sub_mk (⟨sx rfl, ⟨sx rfl, ⟨sx rfl, ⟨sx rfl, ⟨sx rfl, ⟨sx rfl, trivial⟩⟩⟩⟩⟩⟩) (⟨sx rfl, trivial⟩) trivial) ?_
    refine awp_seq (awp_region ?_)
    refine al_pure rfl rfl rfl (pure_fieldPtr rfl gU rfl rfl) ?_
    refine al_pure rfl rfl rfl (pure_loadBox rfl gU rfl rfl rfl rfl) ?_
    refine al_nil ?_
    refine awp_block ?_
    refine awp_seq (awp_region ?_)
    refine al_pure rfl rfl rfl (pure_cmp rfl rfl gU gU rfl) ?_
    refine al_pure rfl rfl rfl (pure_assign rfl gU) ?_
    refine al_nil ?_
    refine awp_cond rfl (fun hc1 => ?_) (fun hc1 => ?_)
    · try simp only [nn, Fm.rows_len, Fd.rows_len] at hc1
      refine awp_drawn' (by kernel_rfl) ?_
      refine dr_pure rfl rfl rfl rfl (pure_move rfl gU) ?_
      refine dr_pure rfl rfl rfl rfl (pure_fieldPtr rfl gU rfl rfl) ?_
      refine dr_load rfl rfl rfl rfl rfl rfl rfl gU rfl rfl rfl rfl ?_
      refine dr_pure rfl rfl rfl rfl (pure_lenS rfl gU (Tryd.underlying9)) ?_
      refine dr_pure rfl rfl rfl rfl (pure_arith rfl rfl gU gU rfl (IntWalk.i64_in _ (by omega))) ?_
      refine dr_pure rfl rfl rfl rfl (pure_move rfl gU) ?_
      refine dr_pure rfl rfl rfl rfl (pure_fieldPtr rfl gU rfl rfl) ?_
      refine dr_load rfl rfl rfl rfl rfl rfl rfl gU rfl rfl rfl rfl ?_
      refine dr_pure rfl rfl rfl rfl (pure_lenS rfl gU (Tryd.underlying9)) ?_
      refine dr_pure rfl rfl rfl rfl (pure_arith rfl rfl gU gU rfl (IntWalk.i64_in _ (by omega))) ?_
      refine dr_pure rfl rfl rfl rfl (pure_assign rfl gU) ?_
      refine dr_pure rfl rfl rfl rfl (pure_assign rfl gU) ?_
      refine dr_nil (by kernel_rfl) ?_
      refine awp_sub (s := { t := [(0, _, _), (1, _, _), (6, _, _), (7, _, _), (8, _, _)], bx := [], ow := [] }) (sub_mk (⟨sx rfl, ⟨sx rfl, ⟨sx rfl, ⟨sx rfl, ⟨sx rfl, trivial⟩⟩⟩⟩⟩) trivial trivial) ?_
      refine awp_region ?_
      refine al_pure rfl rfl rfl (pure_move rfl gU) ?_
      refine al_pure rfl rfl rfl (pure_arith rfl rfl gU gU rfl (IntWalk.i64_in _ (by omega))) ?_
      refine al_pure rfl rfl rfl (pure_assign rfl gU) ?_
      refine al_nil ?_
      refine ⟨k + 1, ?_, ?_, sub_mk (⟨⟨_, rfl, ?_⟩, ⟨⟨_, rfl, ?_⟩, ⟨⟨_, rfl, ?_⟩, ⟨sx rfl, ⟨sx rfl, trivial⟩⟩⟩⟩⟩) trivial trivial⟩
      all_goals (first | omega | rfl | exact tx (xi_eq (by omega)))
    · try simp only [nn, Fm.rows_len, Fd.rows_len] at hc1
      refine awp_seq (awp_region ?_)
      refine al_pure rfl rfl rfl (pure_cmp rfl rfl gU gU rfl) ?_
      refine al_pure rfl rfl rfl (pure_assign rfl gU) ?_
      refine al_nil ?_
      refine awp_sub (s := { t := [(0, _, _), (1, _, _), (6, _, _), (7, _, _), (8, _, _), (9, _, _), (31, _, _), (52, _, _)], bx := [((.l 9), _)], ow := [] }) (sub_mk (⟨sx rfl, ⟨sx rfl, ⟨sx rfl, ⟨sx rfl, ⟨sx rfl, ⟨sx rfl, ⟨sx rfl, ⟨sx rfl, trivial⟩⟩⟩⟩⟩⟩⟩⟩) (⟨sx rfl, trivial⟩) trivial) ?_
      refine awp_cond rfl (fun hc2 => ?_) (fun hc2 => ?_)
      · try simp only [nn, Fm.rows_len, Fd.rows_len] at hc2
        refine awp_drawn' (by kernel_rfl) ?_
        refine dr_pure rfl rfl rfl rfl (pure_move rfl gU) ?_
        refine dr_pure rfl rfl rfl rfl (pure_fieldPtr rfl gU rfl rfl) ?_
        refine dr_load rfl rfl rfl rfl rfl rfl rfl gU rfl rfl rfl rfl ?_
        refine dr_pure rfl rfl rfl rfl (pure_arith rfl rfl gU gU rfl (IntWalk.i64_in _ (by omega))) ?_
        refine dr_pure rfl rfl rfl rfl (pure_move rfl gU) ?_
        refine dr_pure rfl rfl rfl rfl (pure_fieldPtr rfl gU rfl rfl) ?_
        refine dr_load rfl rfl rfl rfl rfl rfl rfl gU rfl rfl rfl rfl ?_
        refine dr_pure rfl rfl rfl rfl (pure_arith rfl rfl gU gU rfl (IntWalk.i64_in _ (by omega))) ?_
        refine dr_pure rfl rfl rfl rfl (pure_assign rfl gU) ?_
        refine dr_pure rfl rfl rfl rfl (pure_assign rfl gU) ?_
        refine dr_nil (by kernel_rfl) ?_
        refine awp_sub (s := { t := [(0, _, _), (1, _, _), (6, _, _), (7, _, _), (8, _, _)], bx := [], ow := [] }) (sub_mk (⟨sx rfl, ⟨sx rfl, ⟨sx rfl, ⟨sx rfl, ⟨sx rfl, trivial⟩⟩⟩⟩⟩) trivial trivial) ?_
        refine awp_region ?_
        refine al_pure rfl rfl rfl (pure_move rfl gU) ?_
        refine al_pure rfl rfl rfl (pure_arith rfl rfl gU gU rfl (IntWalk.i64_in _ (by omega))) ?_
        refine al_pure rfl rfl rfl (pure_assign rfl gU) ?_
        refine al_nil ?_
        refine ⟨k + 1, ?_, ?_, sub_mk (⟨⟨_, rfl, ?_⟩, ⟨⟨_, rfl, ?_⟩, ⟨⟨_, rfl, ?_⟩, ⟨sx rfl, ⟨sx rfl, trivial⟩⟩⟩⟩⟩) trivial trivial⟩
        all_goals (first | omega | rfl | exact tx (xi_eq (by omega)))
      · try simp only [nn, Fm.rows_len, Fd.rows_len] at hc2
        refine awp_seq (awp_region ?_)
        refine al_pure rfl rfl rfl (pure_cmp rfl rfl gU gU rfl) ?_
        refine al_pure rfl rfl rfl (pure_assign rfl gU) ?_
        refine al_nil ?_
        refine awp_cond rfl (fun hc3 => ?_) (fun hc3 => ?_)
        · try simp only [nn, Fm.rows_len, Fd.rows_len] at hc3
          refine awp_drawn' (by kernel_rfl) ?_
          refine dr_pure rfl rfl rfl rfl (pure_move rfl gU) ?_
          refine dr_pure rfl rfl rfl rfl (pure_arith rfl rfl gU gU rfl (IntWalk.i64_in _ (by omega))) ?_
          refine dr_pure rfl rfl rfl rfl (pure_move rfl gU) ?_
          refine dr_pure rfl rfl rfl rfl (pure_arith rfl rfl gU gU rfl (IntWalk.i64_in _ (by omega))) ?_
          refine dr_pure rfl rfl rfl rfl (pure_fieldPtr rfl gU rfl rfl) ?_
          refine dr_load rfl rfl rfl rfl rfl rfl rfl gU rfl rfl rfl rfl ?_
          refine dr_pure rfl rfl rfl rfl (pure_arith rfl rfl gU gU rfl (IntWalk.i64_in _ (by omega))) ?_
          refine dr_pure rfl rfl rfl rfl (pure_assign rfl gU) ?_
          refine dr_pure rfl rfl rfl rfl (pure_assign rfl gU) ?_
          refine dr_nil (by kernel_rfl) ?_
          refine awp_sub (s := { t := [(0, _, _), (1, _, _), (6, _, _), (7, _, _), (8, _, _)], bx := [], ow := [] }) (sub_mk (⟨sx rfl, ⟨sx rfl, ⟨sx rfl, ⟨sx rfl, ⟨sx rfl, trivial⟩⟩⟩⟩⟩) trivial trivial) ?_
          refine awp_region ?_
          refine al_pure rfl rfl rfl (pure_move rfl gU) ?_
          refine al_pure rfl rfl rfl (pure_arith rfl rfl gU gU rfl (IntWalk.i64_in _ (by omega))) ?_
          refine al_pure rfl rfl rfl (pure_assign rfl gU) ?_
          refine al_nil ?_
          refine ⟨k + 1, ?_, ?_, sub_mk (⟨⟨_, rfl, ?_⟩, ⟨⟨_, rfl, ?_⟩, ⟨⟨_, rfl, ?_⟩, ⟨sx rfl, ⟨sx rfl, trivial⟩⟩⟩⟩⟩) trivial trivial⟩
          all_goals (first | omega | rfl | exact tx (xi_eq (by omega)))
        · try simp only [nn, Fm.rows_len, Fd.rows_len] at hc3
          refine awp_seq (awp_region ?_)
          refine al_pure rfl rfl rfl (pure_cmp rfl rfl gU gU rfl) ?_
          refine al_pure rfl rfl rfl (pure_assign rfl gU) ?_
          refine al_nil ?_
          refine awp_cond rfl (fun hc4 => ?_) (fun hc4 => ?_)
          · try simp only [nn, Fm.rows_len, Fd.rows_len] at hc4
            refine awp_region ?_
            refine al_pure rfl rfl rfl (pure_move rfl gU) ?_
            refine al_pure rfl rfl rfl (pure_arith rfl rfl gU gU rfl (IntWalk.i64_in _ (by omega))) ?_
            refine al_pure rfl rfl rfl (pure_move rfl gU) ?_
            refine al_pure rfl rfl rfl (pure_arith rfl rfl gU gU rfl (IntWalk.i64_in _ (by omega))) ?_
            refine al_pure rfl rfl rfl (pure_assign rfl gU) ?_
            refine al_pure rfl rfl rfl (pure_assign rfl gU) ?_
            refine al_nil ?_
            refine awp_sub (s := { t := [(0, _, _), (1, _, _), (6, _, _), (7, _, _), (8, _, _)], bx := [], ow := [] }) (sub_mk (⟨sx rfl, ⟨sx rfl, ⟨sx rfl, ⟨sx rfl, ⟨sx rfl, trivial⟩⟩⟩⟩⟩) trivial trivial) ?_
            refine awp_region ?_
            refine al_pure rfl rfl rfl (pure_move rfl gU) ?_
            refine al_pure rfl rfl rfl (pure_arith rfl rfl gU gU rfl (IntWalk.i64_in _ (by omega))) ?_
            refine al_pure rfl rfl rfl (pure_assign rfl gU) ?_
            refine al_nil ?_
            refine ⟨k + 1, ?_, ?_, sub_mk (⟨⟨_, rfl, ?_⟩, ⟨⟨_, rfl, ?_⟩, ⟨⟨_, rfl, ?_⟩, ⟨sx rfl, ⟨sx rfl, trivial⟩⟩⟩⟩⟩) trivial trivial⟩
            all_goals (first | omega | rfl | exact tx (xi_eq (by omega)))
          · try simp only [nn, Fm.rows_len, Fd.rows_len] at hc4
            refine awp_seq (awp_region ?_)
            refine al_pure rfl rfl rfl (pure_cmp rfl rfl gU gU rfl) ?_
            refine al_pure rfl rfl rfl (pure_assign rfl gU) ?_
            refine al_nil ?_
            refine awp_sub (s := { t := [(0, _, _), (1, _, _), (6, _, _), (7, _, _), (8, _, _), (9, _, _), (77, _, _)], bx := [((.l 9), _)], ow := [] }) (sub_mk (⟨sx rfl, ⟨sx rfl, ⟨sx rfl, ⟨sx rfl, ⟨sx rfl, ⟨sx rfl, ⟨sx rfl, trivial⟩⟩⟩⟩⟩⟩⟩) (⟨sx rfl, trivial⟩) trivial) ?_
            refine awp_cond rfl (fun hc5 => ?_) (fun hc5 => ?_)
            · try simp only [nn, Fm.rows_len, Fd.rows_len] at hc5
              refine awp_seq (awp_region ?_)
              refine al_pure rfl rfl rfl (pure_move rfl gU) ?_
              refine al_pure rfl rfl rfl (pure_fieldPtr rfl gU rfl rfl) ?_
              refine al_pure rfl rfl rfl (pure_loadBox rfl gU rfl rfl rfl rfl) ?_
              refine al_call rfl rfl rfl rfl rfl rfl gU gU (hrec k (by omega) (by assumption)) rfl ?_
              refine al_pure rfl rfl rfl (pure_move rfl gU) ?_
              refine al_pure rfl rfl rfl (pure_extract rfl gU rfl) ?_
              refine al_pure rfl rfl rfl (pure_extract rfl gU rfl) ?_
              refine al_pure rfl rfl rfl (pure_assign rfl gU) ?_
              refine al_pure rfl rfl rfl (pure_assign rfl gU) ?_
              refine al_nil ?_
              refine awp_sub (s := { t := [(0, _, _), (1, _, _), (6, _, _), (7, _, _), (8, _, _), (10, _, _), (11, _, _)], bx := [], ow := [] }) (sub_mk (⟨sx rfl, ⟨sx rfl, ⟨sx rfl, ⟨sx rfl, ⟨sx rfl, ⟨sx rfl, ⟨sx rfl, trivial⟩⟩⟩⟩⟩⟩⟩) trivial trivial) ?_
              refine awp_region ?_
              refine al_pure rfl rfl rfl (pure_move rfl gU) ?_
              refine al_pure rfl rfl rfl (pure_arith rfl rfl gU gU rfl (IntWalk.i64_in _ (by omega))) ?_
              refine al_pure rfl rfl rfl (pure_move rfl gU) ?_
              refine al_pure rfl rfl rfl (pure_arith rfl rfl gU gU rfl (IntWalk.i64_in _ (by omega))) ?_
              refine al_pure rfl rfl rfl (pure_move rfl gU) ?_
              refine al_pure rfl rfl rfl (pure_arith rfl rfl gU gU rfl (IntWalk.i64_in _ (by omega))) ?_
              refine al_pure rfl rfl rfl (pure_move rfl gU) ?_
              refine al_pure rfl rfl rfl (pure_arith rfl rfl gU gU rfl (IntWalk.i64_in _ (by omega))) ?_
              refine al_pure rfl rfl rfl (pure_assign rfl gU) ?_
              refine al_pure rfl rfl rfl (pure_assign rfl gU) ?_
              refine al_nil ?_
              refine awp_sub (s := { t := [(0, _, _), (1, _, _), (6, _, _), (7, _, _), (8, _, _)], bx := [], ow := [] }) (sub_mk (⟨sx rfl, ⟨sx rfl, ⟨sx rfl, ⟨sx rfl, ⟨sx rfl, trivial⟩⟩⟩⟩⟩) trivial trivial) ?_
              refine awp_region ?_
              refine al_pure rfl rfl rfl (pure_move rfl gU) ?_
              refine al_pure rfl rfl rfl (pure_arith rfl rfl gU gU rfl (IntWalk.i64_in _ (by omega))) ?_
              refine al_pure rfl rfl rfl (pure_assign rfl gU) ?_
              refine al_nil ?_
              refine ⟨k + 1, ?_, ?_, sub_mk (⟨⟨_, rfl, ?_⟩, ⟨⟨_, rfl, ?_⟩, ⟨⟨_, rfl, ?_⟩, ⟨sx rfl, ⟨sx rfl, trivial⟩⟩⟩⟩⟩) trivial trivial⟩
              all_goals (first | omega | rfl | exact tx (xi_eq (by omega)))
            · try simp only [nn, Fm.rows_len, Fd.rows_len] at hc5
              refine awp_drawn' (by kernel_rfl) ?_
              refine dr_pure rfl rfl rfl rfl (pure_move rfl gU) ?_
              refine dr_pure rfl rfl rfl rfl (pure_fieldPtr rfl gU rfl rfl) ?_
              refine dr_load rfl rfl rfl rfl rfl rfl rfl gU rfl rfl rfl rfl ?_
              refine dr_pure rfl rfl rfl rfl (pure_arith rfl rfl gU gU rfl (IntWalk.i64_in _ (by omega))) ?_
              refine dr_pure rfl rfl rfl rfl (pure_move rfl gU) ?_
              refine dr_pure rfl rfl rfl rfl (pure_fieldPtr rfl gU rfl rfl) ?_
              refine dr_load rfl rfl rfl rfl rfl rfl rfl gU rfl rfl rfl rfl ?_
              refine dr_pure rfl rfl rfl rfl (pure_arith rfl rfl gU gU rfl (IntWalk.i64_in _ (by omega))) ?_
              refine dr_pure rfl rfl rfl rfl (pure_assign rfl gU) ?_
              refine dr_pure rfl rfl rfl rfl (pure_assign rfl gU) ?_
              refine dr_nil (by kernel_rfl) ?_
              refine awp_sub (s := { t := [(0, _, _), (1, _, _), (6, _, _), (7, _, _), (8, _, _)], bx := [], ow := [] }) (sub_mk (⟨sx rfl, ⟨sx rfl, ⟨sx rfl, ⟨sx rfl, ⟨sx rfl, trivial⟩⟩⟩⟩⟩) trivial trivial) ?_
              refine awp_region ?_
              refine al_pure rfl rfl rfl (pure_move rfl gU) ?_
              refine al_pure rfl rfl rfl (pure_arith rfl rfl gU gU rfl (IntWalk.i64_in _ (by omega))) ?_
              refine al_pure rfl rfl rfl (pure_assign rfl gU) ?_
              refine al_nil ?_
              refine ⟨k + 1, ?_, ?_, sub_mk (⟨⟨_, rfl, ?_⟩, ⟨⟨_, rfl, ?_⟩, ⟨⟨_, rfl, ?_⟩, ⟨sx rfl, ⟨sx rfl, trivial⟩⟩⟩⟩⟩) trivial trivial⟩
              all_goals (first | omega | rfl | exact tx (xi_eq (by omega)))
  · try simp only [nn, Fm.rows_len, Fd.rows_len] at hc
    refine awp_exit ?_
    repeat (first | refine thenS_exit ?_ | refine blockS_hit ?_ | refine blockS_miss rfl ?_)
    refine awp_seq (awp_region ?_)
    refine al_pure rfl rfl rfl (pure_move rfl gU) ?_
    refine al_pure rfl rfl rfl (pure_move rfl gU) ?_
    refine al_pure rfl rfl rfl (pure_assign rfl gU) ?_
    refine al_pure rfl rfl rfl (pure_assign rfl gU) ?_
    refine al_nil ?_
    refine awp_ret ?_
    repeat (first | refine tR ?_ | refine bR ?_)
    refine ret_ok rfl ?_ trivial
    have : k = (t.getD i.toNat default).fields.length := by omega
    rw [this, List.take_length]
    rfl
theorem rlen_spec (t : List Fm) (i : Int) (hi : 0 ≤ i ∧ i < t.length) (h : Fds t (t.getD i.toNat default).fields) : Ctr sys 43 [xtab t, xi i] [] (xii (bndT t i)) none [] := by
  refine rlen_gen t i (bnd0 t) hi h.len.2 h.ok h.bnd (fun k hk => h.bndF hk) fun k hk h5 => ?_
  obtain ⟨h1, h2⟩ := h.nest k hk h5
  have h3 := (h.ok k hk).n
  refine rlen_gen t _ (fun _ => (0, 0)) (by omega) h2.len.2 (fun j hj => (h2.ok j hj).1) (fun j => by have := h2.bnd (rec := fun _ => (0, 0)) j; omega) (fun j hj => ?_) fun j hj h6 => absurd h6 (h2.ok j hj).2.1
  rw [bndF_eq (h2.ok j hj).2.1]
  have := bnd1_le (h2.ok j hj).1
  omega
theorem rBounds_spec (t : List Fm) (i : Int) : Ctr sys 22 [xtab t, xi i] [] (xiie (boundsE t i)) none [] := by
  have hrl := Fm.rows_len t
  refine spec_intro Tryd.func22 rfl rfl rfl rfl rfl rfl ?_
  refine awp_seq (awp_region ?_)
  refine al_pure rfl rfl rfl (pure_assign rfl gU) ?_
  refine al_pure rfl rfl rfl (pure_assign rfl gU) ?_
  refine al_pure rfl rfl rfl (pure_assign rfl gU) ?_
  refine al_nil ?_
  refine awp_seq ?_
  refine awp_seq (awp_region ?_)
  refine al_pure rfl rfl rfl (pure_move rfl gU) ?_
  refine al_pure rfl rfl rfl (pure_move rfl gU) ?_
  refine al_call rfl rfl rfl rfl rfl rfl gU gU (rError_spec _ _) rfl ?_
  refine al_pure rfl rfl rfl (pure_assign rfl gU) ?_
  refine al_nil ?_
  refine awp_sub (s := { t := [(0, _, _), (1, _, _), (7, _, _)], bx := [], ow := [] }) (sub_mk (⟨sx rfl, ⟨sx rfl, ⟨sx rfl, trivial⟩⟩⟩) trivial trivial) ?_
  refine awp_seq (awp_region ?_)
  refine al_pure rfl rfl rfl (pure_move rfl gU) ?_
  refine al_pure rfl rfl rfl (pure_cmp rfl rfl gU gU rfl) ?_
  refine al_nil ?_
  refine awp_cond rfl (fun hc => ?_) (fun hc => ?_)
  · try simp only [nn, Fm.rows_len, Fd.rows_len] at hc
    refine awp_seq (awp_region ?_)
    refine al_pure rfl rfl rfl (pure_move rfl gU) ?_
    refine al_pure rfl rfl rfl (pure_assign rfl gU) ?_
    refine al_pure rfl rfl rfl (pure_assign rfl gU) ?_
    refine al_pure rfl rfl rfl (pure_assign rfl gU) ?_
    refine al_nil ?_
    refine awp_ret ?_
    repeat (first | refine tR ?_ | refine bR ?_)
    refine ret_ok rfl ?_ trivial
    exact xiie_eq (by simp [boundsE, *]) (by simp [boundsE, *]) (by simp [boundsE, *])
  · try simp only [nn, Fm.rows_len, Fd.rows_len] at hc
    refine awp_skip ?_
    refine awp_seq (awp_region ?_)
    refine al_pure rfl rfl rfl (pure_move rfl gU) ?_
    refine al_pure rfl rfl rfl (pure_move rfl gU) ?_
    refine al_call rfl rfl rfl rfl rfl rfl gU gU (rlen_spec _ _ (errE_zero hc).2 ((errE_zero hc).1.fds (by have := (errE_zero hc).2; omega))) rfl ?_
    refine al_pure rfl rfl rfl (pure_move rfl gU) ?_
    refine al_pure rfl rfl rfl (pure_extract rfl gU rfl) ?_
    refine al_pure rfl rfl rfl (pure_extract rfl gU rfl) ?_
    refine al_pure rfl rfl rfl (pure_assign rfl gU) ?_
    refine al_pure rfl rfl rfl (pure_assign rfl gU) ?_
    refine al_nil ?_
    refine awp_sub (s := { t := [(8, _, _), (9, _, _)], bx := [], ow := [] }) (sub_mk (⟨sx rfl, ⟨sx rfl, trivial⟩⟩) trivial trivial) ?_
    refine awp_seq (awp_region ?_)
    refine al_pure rfl rfl rfl (pure_move rfl gU) ?_
    refine al_pure rfl rfl rfl (pure_move rfl gU) ?_
    refine al_pure rfl rfl rfl (pure_assign rfl gU) ?_
    refine al_pure rfl rfl rfl (pure_assign rfl gU) ?_
    refine al_pure rfl rfl rfl (pure_assign rfl gU) ?_
    refine al_nil ?_
    refine awp_ret ?_
    repeat (first | refine tR ?_ | refine bR ?_)
    refine ret_ok rfl ?_ trivial
    exact xiie_eq (by simp [boundsE, *]) (by simp [boundsE, *]) (by simp [boundsE, *])
end Go.Proofs.YthfoclblmdnckaaDoor
/- Lists of strings and numbers: as rows of cells (plain). -/
set_option linter.unusedVariables false
set_option linter.unusedSimpArgs false
namespace Go.Proofs.YthfoclblmdnckaaDoor
open Go Go.Abs
def strR (l : List (List UInt8)) : List (List C) := l.map fun s => [.s s]
theorem strR_len (l : List (List UInt8)) : (strR l).length = l.length := by simp [strR]
theorem strR_at {l : List (List UInt8)} {k : Nat} (h : k < l.length) : (strR l)[k]? = some [.s (l.getD k [])] := by
  rw [strR, List.getElem?_map, List.getD_eq_getElem?_getD, List.getElem?_eq_getElem h]; rfl
theorem strR_app (a b : List (List UInt8)) : strR (a ++ b) = strR a ++ strR b := by simp [strR]
abbrev xss (l : List (List UInt8)) : X := .v (.c (.sl 1 (strR l)))
def intR (l : List Int) : List (List C) := l.map fun n => [.i .i64 n]
theorem intR_len (l : List Int) : (intR l).length = l.length := by simp [intR]
theorem intR_at {l : List Int} {k : Nat} (h : k < l.length) : (intR l)[k]? = some [.i .i64 (l.getD k 0)] := by
  rw [intR, List.getElem?_map, List.getD_eq_getElem?_getD, List.getElem?_eq_getElem h]; rfl
theorem intR_app (a b : List Int) : intR (a ++ b) = intR a ++ intR b := by simp [intR]
abbrev xis (l : List Int) : X := .v (.c (.sl 1 (intR l)))
theorem bytesR_at {l : List UInt8} {k : Nat} (h : k < l.length) : (bytesR l)[k]? = some [.i .u8 ((l.getD k 0).toNat : Int)] := by
  rw [bytesR, List.getElem?_map, List.getD_eq_getElem?_getD, List.getElem?_eq_getElem h]; rfl
abbrev xbs (l : List UInt8) : X := .v (.c (.sl 1 (bytesR l)))
theorem xss_snoc (l : List (List UInt8)) (s : List UInt8) : X.v (.c (.sl 1 (strR l ++ [[.s s]]))) = xss (l ++ [s]) := by simp [xss, strR]
theorem xis_snoc (l : List Int) (n : Int) : X.v (.c (.sl 1 (intR l ++ [[.i .i64 n]]))) = xis (l ++ [n]) := by simp [xis, intR]
theorem xbs_snoc (l : List UInt8) (b : UInt8) (n : Int) (h : (b.toNat : Int) = n) : X.v (.c (.sl 1 (bytesR l ++ [[.i .u8 n]]))) = xbs (l ++ [b]) := by simp [xbs, bytesR, h]
theorem getD_take {α : Type} (l : List α) (d : α) {j k : Nat} (h : j < k) : (l.take k).getD j d = l.getD j d := by
  simp only [List.getD_eq_getElem?_getD]; rw [List.getElem?_take, if_pos h]
theorem getD_drop {α : Type} (l : List α) (d : α) (j k : Nat) : (l.drop k).getD j d = l.getD (k + j) d := by
  simp only [List.getD_eq_getElem?_getD]; rw [List.getElem?_drop]
theorem take_getD {α : Type} {l : List α} {d : α} {k : Nat} (h : k < l.length) : l.take (k + 1) = l.take k ++ [l.getD k d] := by
  rw [List.take_add_one, List.getD_eq_getElem?_getD, List.getElem?_eq_getElem h]; rfl
theorem dropD {α : Type} {l : List α} {d : α} {k : Nat} (h : k < l.length) : l.drop k = l.getD k d :: l.drop (k + 1) := by
  rw [List.drop_eq_getElem_cons h, List.getD_eq_getElem?_getD, List.getElem?_eq_getElem h]; rfl
/-- The parts of a string between separators, as the loop goes. -/
def splitF (s sep : List UInt8) : Nat → Nat → Nat → List (List UInt8) → List (List UInt8)
  | 0, _, b, out => out ++ [s.drop b]
  | n + 1, i, b, out => if i + sep.length ≤ s.length then
      (if b ≤ i ∧ (s.take (i + sep.length)).drop i = sep then splitF s sep n (i + 1) (i + sep.length) (out ++ [(s.take i).drop b]) else splitF s sep n (i + 1) b out)
    else out ++ [s.drop b]
def splitE (s sep : List UInt8) : List (List UInt8) := splitF s sep (s.length + 1) 0 0 []
theorem splitF_one (s sep : List UInt8) : ∀ (n i b : Nat) (out : List (List UInt8)), out.length + 1 ≤ (splitF s sep n i b out).length ∧ (splitF s sep n i b out).length ≤ out.length + n + 1
  | 0, _, _, out => by simp [splitF]
  | n + 1, i, b, out => by
    rw [splitF]
    split
    · split
      · have := splitF_one s sep n (i + 1) (i + sep.length) (out ++ [(s.take i).drop b]); simp at this; omega
      · have := splitF_one s sep n (i + 1) b out; omega
    · simp
theorem splitF_mem (s sep : List UInt8) : ∀ (n i b : Nat) (out : List (List UInt8)), (∀ x ∈ out, x.length ≤ s.length) → ∀ x ∈ splitF s sep n i b out, x.length ≤ s.length
  | 0, _, b, out, h, x, hx => by
    rw [splitF] at hx
    rcases List.mem_append.1 hx with hx | hx
    · exact h x hx
    · simp at hx; subst hx; simp
  | n + 1, i, b, out, h, x, hx => by
    rw [splitF] at hx
    split at hx
    · split at hx
      · refine splitF_mem s sep n _ _ _ (fun y hy => ?_) x hx
        rcases List.mem_append.1 hy with hy | hy
        · exact h y hy
        · simp at hy; subst hy; simp; omega
      · exact splitF_mem s sep n _ _ _ h x hx
    · rcases List.mem_append.1 hx with hx | hx
      · exact h x hx
      · simp at hx; subst hx; simp
theorem splitE_len (s sep : List UInt8) : 1 ≤ (splitE s sep).length ∧ (splitE s sep).length ≤ s.length + 2 := by
  have := splitF_one s sep (s.length + 1) 0 0 []; simp at this; unfold splitE; omega
theorem splitE_get (s sep : List UInt8) (k : Nat) : ((splitE s sep).getD k []).length ≤ s.length := by
  rw [List.getD_eq_getElem?_getD]
  cases h : (splitE s sep)[k]? with
  | none => simp
  | some x => exact splitF_mem s sep _ _ _ _ (by simp) x (List.mem_of_getElem? h)
/-- Hexadecimal digits. -/
def hexB (b : UInt8) : Bool := (decide (48 ≤ (b.toNat : Int)) && decide ((b.toNat : Int) ≤ 57)) || (decide (97 ≤ (b.toNat : Int)) && decide ((b.toNat : Int) ≤ 102))
def hexV (b : UInt8) : Int := if (b.toNat : Int) ≤ 57 then b.toNat - 48 else b.toNat - 87
def unhexF : List UInt8 → List UInt8 → List UInt8 × Bool
  | a :: b :: l, out => if hexB a = true ∧ hexB b = true then unhexF l (out ++ [UInt8.ofNat (16 * hexV a + hexV b).toNat]) else ([], false)
  | [_], out => (out, false)
  | [], out => (out, true)
def numF : Int → List UInt8 → Int
  | n, [] => n
  | n, b :: l => if (b.toNat : Int) < 48 ∨ 57 < (b.toNat : Int) then -1 else numF (10 * n + (b.toNat - 48)) l
def numE (s : List UInt8) : Int := if s.length = 0 ∨ 6 < s.length ∨ (1 < s.length ∧ (s.getD 0 0).toNat = 48) then -1 else numF 0 s
def pw10 (k : Nat) : Int := 10 ^ k
theorem pw10_succ (k : Nat) : pw10 (k + 1) = 10 * pw10 k := by simp [pw10, Int.pow_succ, Int.mul_comm]
theorem pw10_le {k : Nat} (h : k ≤ 6) : 1 ≤ pw10 k ∧ pw10 k ≤ 1000000 := by
  match k, h with
  | 0, _ => decide
  | 1, _ => decide
  | 2, _ => decide
  | 3, _ => decide
  | 4, _ => decide
  | 5, _ => decide
  | 6, _ => decide
end Go.Proofs.YthfoclblmdnckaaDoor
/- Contracts of library functions: how this program's functions lie to the library's (written by the kit's tool). -/
namespace Go.Proofs.YthfoclblmdnckaaDoor
open Go Go.Proofs Go.Shelf
def lays156_ren : Go.Shelf.Ren := ⟨fun | 156 => 32 | 165 => 53 | 166 => 31 | 169 => 33 | 240 => 52 | 241 => 65 | 276 => 64 | 277 => 75 | n => n, fun | 31 => 43 | 9 => 9 | 3 => 3 | 4 => 4 | 0 => 0 | 20 => 20 | 72 => 59 | 76 => 63 | 70 => 57 | 37 => 35 | 75 => 62 | 127 => 85 | 164 => 94 | 5 => 5 | 80 => 66 | n => n, fun | n => n⟩
theorem lays156 : Go.Proofs.Lays.n156 Tryd.prog lays156_ren := {
  mixed := by kernel_rfl
  f156 := Tryd.func32.trans (congrArg some (by kernel_rfl))
  f165 := Tryd.func53.trans (congrArg some (by kernel_rfl))
  f166 := Tryd.func31.trans (congrArg some (by kernel_rfl))
  f169 := Tryd.func33.trans (congrArg some (by kernel_rfl))
  f240 := Tryd.func52.trans (congrArg some (by kernel_rfl))
  f241 := Tryd.func65.trans (congrArg some (by kernel_rfl))
  f276 := Tryd.func64.trans (congrArg some (by kernel_rfl))
  f277 := Tryd.func75.trans (congrArg some (by kernel_rfl))
  t0 := Tryd.underlying0
  a0 := Tryd.isAgg0
  z0 := Tryd.sizeOf0
  v0 := Tryd.zeroValue0
  t3 := Tryd.underlying3
  a3 := Tryd.isAgg3
  z3 := Tryd.sizeOf3
  v3 := Tryd.zeroValue3
  t4 := Tryd.underlying4
  a4 := Tryd.isAgg4
  z4 := Tryd.sizeOf4
  v4 := Tryd.zeroValue4
  t9 := Tryd.underlying9
  a9 := Tryd.isAgg9
  z9 := Tryd.sizeOf9
  v9 := Tryd.zeroValue9
  t20 := Tryd.underlying20
  a20 := Tryd.isAgg20
  z20 := Tryd.sizeOf20
  v20 := Tryd.zeroValue20
  t31 := Tryd.underlying43
  a31 := Tryd.isAgg43
  z31 := Tryd.sizeOf43
  v31 := Tryd.zeroValue43
  t37 := Tryd.underlying35
  a37 := Tryd.isAgg35
  z37 := Tryd.sizeOf35
  v37 := Tryd.zeroValue35
  t70 := Tryd.underlying57
  a70 := Tryd.isAgg57
  z70 := Tryd.sizeOf57
  v70 := Tryd.zeroValue57
  t72 := Tryd.underlying59
  a72 := Tryd.isAgg59
  z72 := Tryd.sizeOf59
  v72 := Tryd.zeroValue59
  t75 := Tryd.underlying62
  a75 := Tryd.isAgg62
  z75 := Tryd.sizeOf62
  v75 := Tryd.zeroValue62
  t76 := Tryd.underlying63
  a76 := Tryd.isAgg63
  z76 := Tryd.sizeOf63
  v76 := Tryd.zeroValue63
  t127 := Tryd.underlying85
  a127 := Tryd.isAgg85
  z127 := Tryd.sizeOf85
  v127 := Tryd.zeroValue85
  t164 := Tryd.underlying94
  a164 := Tryd.isAgg94
  z164 := Tryd.sizeOf94
  v164 := Tryd.zeroValue94 }
def lays137_ren : Go.Shelf.Ren := ⟨fun | 137 => 71 | 217 => 76 | 266 => 89 | n => n, fun | 9 => 9 | 5 => 5 | 3 => 3 | n => n, fun | n => n⟩
theorem lays137 : Go.Proofs.Lays.n137 Tryd.prog lays137_ren := {
  mixed := by kernel_rfl
  f137 := Tryd.func71.trans (congrArg some (by kernel_rfl))
  f217 := Tryd.func76.trans (congrArg some (by kernel_rfl))
  f266 := Tryd.func89.trans (congrArg some (by kernel_rfl))
  t3 := Tryd.underlying3
  a3 := Tryd.isAgg3
  z3 := Tryd.sizeOf3
  v3 := Tryd.zeroValue3
  t5 := Tryd.underlying5
  a5 := Tryd.isAgg5
  z5 := Tryd.sizeOf5
  v5 := Tryd.zeroValue5
  t9 := Tryd.underlying9
  a9 := Tryd.isAgg9
  z9 := Tryd.sizeOf9
  v9 := Tryd.zeroValue9 }
def lays172_ren : Go.Shelf.Ren := ⟨fun | 172 => 70 | 244 => 83 | 245 => 84 | 247 => 92 | 279 => 93 | 280 => 94 | 281 => 95 | 282 => 96 | 287 => 102 | 316 => 103 | 171 => 51 | 205 => 104 | 321 => 107 | 322 => 108 | 243 => 63 | 246 => 74 | 283 => 85 | 284 => 86 | 285 => 87 | 286 => 88 | 129 => 98 | 317 => 97 | 318 => 99 | 319 => 100 | 320 => 101 | 337 => 105 | 338 => 106 | n => n, fun | 9 => 9 | 3 => 3 | 75 => 62 | 76 => 63 | 4 => 4 | 5 => 5 | 167 => 116 | 37 => 35 | 0 => 0 | 85 => 117 | 2 => 2 | 168 => 119 | 53 => 108 | 175 => 131 | 46 => 93 | 210 => 134 | 127 => 85 | 145 => 140 | 143 => 138 | 21 => 21 | 171 => 107 | 173 => 111 | 212 => 123 | 51 => 113 | 20 => 20 | 213 => 124 | 232 => 141 | 233 => 142 | 80 => 66 | n => n, fun | 15 => 4 | 16 => 5 | 17 => 1 | 18 => 6 | 19 => 7 | n => n⟩
theorem lays172 : Go.Proofs.Lays.n172 Tryd.prog lays172_ren := {
  mixed := by kernel_rfl
  f129 := Tryd.func98.trans (congrArg some (by kernel_rfl))
  f171 := Tryd.func51.trans (congrArg some (by kernel_rfl))
  f172 := Tryd.func70.trans (congrArg some (by kernel_rfl))
  f205 := Tryd.func104.trans (congrArg some (by kernel_rfl))
  f243 := Tryd.func63.trans (congrArg some (by kernel_rfl))
  f244 := Tryd.func83.trans (congrArg some (by kernel_rfl))
  f245 := Tryd.func84.trans (congrArg some (by kernel_rfl))
  f246 := Tryd.func74.trans (congrArg some (by kernel_rfl))
  f247 := Tryd.func92.trans (congrArg some (by kernel_rfl))
  f279 := Tryd.func93.trans (congrArg some (by kernel_rfl))
  f280 := Tryd.func94.trans (congrArg some (by kernel_rfl))
  f281 := Tryd.func95.trans (congrArg some (by kernel_rfl))
  f282 := Tryd.func96.trans (congrArg some (by kernel_rfl))
  f283 := Tryd.func85.trans (congrArg some (by kernel_rfl))
  f284 := Tryd.func86.trans (congrArg some (by kernel_rfl))
  f285 := Tryd.func87.trans (congrArg some (by kernel_rfl))
  f286 := Tryd.func88.trans (congrArg some (by kernel_rfl))
  f287 := Tryd.func102.trans (congrArg some (by kernel_rfl))
  f316 := Tryd.func103.trans (congrArg some (by kernel_rfl))
  f317 := Tryd.func97.trans (congrArg some (by kernel_rfl))
  f318 := Tryd.func99.trans (congrArg some (by kernel_rfl))
  f319 := Tryd.func100.trans (congrArg some (by kernel_rfl))
  f320 := Tryd.func101.trans (congrArg some (by kernel_rfl))
  f321 := Tryd.func107.trans (congrArg some (by kernel_rfl))
  f322 := Tryd.func108.trans (congrArg some (by kernel_rfl))
  f337 := Tryd.func105.trans (congrArg some (by kernel_rfl))
  f338 := Tryd.func106.trans (congrArg some (by kernel_rfl))
  t0 := Tryd.underlying0
  a0 := Tryd.isAgg0
  z0 := Tryd.sizeOf0
  v0 := Tryd.zeroValue0
  t2 := Tryd.underlying2
  a2 := Tryd.isAgg2
  z2 := Tryd.sizeOf2
  v2 := Tryd.zeroValue2
  t3 := Tryd.underlying3
  a3 := Tryd.isAgg3
  z3 := Tryd.sizeOf3
  v3 := Tryd.zeroValue3
  t4 := Tryd.underlying4
  a4 := Tryd.isAgg4
  z4 := Tryd.sizeOf4
  v4 := Tryd.zeroValue4
  t5 := Tryd.underlying5
  a5 := Tryd.isAgg5
  z5 := Tryd.sizeOf5
  v5 := Tryd.zeroValue5
  t9 := Tryd.underlying9
  a9 := Tryd.isAgg9
  z9 := Tryd.sizeOf9
  v9 := Tryd.zeroValue9
  t20 := Tryd.underlying20
  a20 := Tryd.isAgg20
  z20 := Tryd.sizeOf20
  v20 := Tryd.zeroValue20
  t21 := Tryd.underlying21
  a21 := Tryd.isAgg21
  z21 := Tryd.sizeOf21
  v21 := Tryd.zeroValue21
  t37 := Tryd.underlying35
  a37 := Tryd.isAgg35
  z37 := Tryd.sizeOf35
  v37 := Tryd.zeroValue35
  t46 := Tryd.underlying93
  a46 := Tryd.isAgg93
  z46 := Tryd.sizeOf93
  v46 := Tryd.zeroValue93
  t51 := Tryd.underlying113
  a51 := Tryd.isAgg113
  z51 := Tryd.sizeOf113
  v51 := Tryd.zeroValue113
  t53 := Tryd.underlying108
  a53 := Tryd.isAgg108
  z53 := Tryd.sizeOf108
  v53 := Tryd.zeroValue108
  t75 := Tryd.underlying62
  a75 := Tryd.isAgg62
  z75 := Tryd.sizeOf62
  v75 := Tryd.zeroValue62
  t76 := Tryd.underlying63
  a76 := Tryd.isAgg63
  z76 := Tryd.sizeOf63
  v76 := Tryd.zeroValue63
  t85 := Tryd.underlying117
  a85 := Tryd.isAgg117
  z85 := Tryd.sizeOf117
  v85 := Tryd.zeroValue117
  t127 := Tryd.underlying85
  a127 := Tryd.isAgg85
  z127 := Tryd.sizeOf85
  v127 := Tryd.zeroValue85
  t143 := Tryd.underlying138
  a143 := Tryd.isAgg138
  z143 := Tryd.sizeOf138
  v143 := Tryd.zeroValue138
  t145 := Tryd.underlying140
  a145 := Tryd.isAgg140
  z145 := Tryd.sizeOf140
  v145 := Tryd.zeroValue140
  t167 := Tryd.underlying116
  a167 := Tryd.isAgg116
  z167 := Tryd.sizeOf116
  v167 := Tryd.zeroValue116
  t168 := Tryd.underlying119
  a168 := Tryd.isAgg119
  z168 := Tryd.sizeOf119
  v168 := Tryd.zeroValue119
  t171 := Tryd.underlying107
  a171 := Tryd.isAgg107
  z171 := Tryd.sizeOf107
  v171 := Tryd.zeroValue107
  t173 := Tryd.underlying111
  a173 := Tryd.isAgg111
  z173 := Tryd.sizeOf111
  v173 := Tryd.zeroValue111
  t175 := Tryd.underlying131
  a175 := Tryd.isAgg131
  z175 := Tryd.sizeOf131
  v175 := Tryd.zeroValue131
  t210 := Tryd.underlying134
  a210 := Tryd.isAgg134
  z210 := Tryd.sizeOf134
  v210 := Tryd.zeroValue134
  t212 := Tryd.underlying123
  a212 := Tryd.isAgg123
  z212 := Tryd.sizeOf123
  v212 := Tryd.zeroValue123
  t213 := Tryd.underlying124
  a213 := Tryd.isAgg124
  z213 := Tryd.sizeOf124
  t232 := Tryd.underlying141
  a232 := Tryd.isAgg141
  z232 := Tryd.sizeOf141
  v232 := Tryd.zeroValue141
  t233 := Tryd.underlying142
  a233 := Tryd.isAgg142
  z233 := Tryd.sizeOf142
  v233 := Tryd.zeroValue142
  g15 := by kernel_rfl
  g16 := by kernel_rfl
  g17 := by kernel_rfl
  g18 := by kernel_rfl
  g19 := by kernel_rfl }
def laysM171_ren : Go.Shelf.Ren := ⟨fun | 171 => 51 | 243 => 63 | 246 => 74 | 283 => 85 | 284 => 86 | 285 => 87 | 286 => 88 | 129 => 98 | 317 => 97 | 318 => 99 | 319 => 100 | 320 => 101 | 337 => 105 | 338 => 106 | n => n, fun | 3 => 3 | 9 => 9 | 2 => 2 | 4 => 4 | 171 => 107 | 0 => 0 | 53 => 108 | 37 => 35 | 5 => 5 | 173 => 111 | 212 => 123 | 51 => 113 | 20 => 20 | 213 => 124 | 46 => 93 | 232 => 141 | 233 => 142 | n => n, fun | 17 => 1 | 18 => 6 | 19 => 7 | n => n⟩
theorem laysM171 : Go.Proofs.LaysM.n171 Tryd.prog laysM171_ren := {
  mixed := by kernel_rfl
  f129 := Tryd.func98.trans (congrArg some (by kernel_rfl))
  f171 := Tryd.func51.trans (congrArg some (by kernel_rfl))
  f243 := Tryd.func63.trans (congrArg some (by kernel_rfl))
  f246 := Tryd.func74.trans (congrArg some (by kernel_rfl))
  f283 := Tryd.func85.trans (congrArg some (by kernel_rfl))
  f284 := Tryd.func86.trans (congrArg some (by kernel_rfl))
  f285 := Tryd.func87.trans (congrArg some (by kernel_rfl))
  f286 := Tryd.func88.trans (congrArg some (by kernel_rfl))
  f317 := Tryd.func97.trans (congrArg some (by kernel_rfl))
  f318 := Tryd.func99.trans (congrArg some (by kernel_rfl))
  f319 := Tryd.func100.trans (congrArg some (by kernel_rfl))
  f320 := Tryd.func101.trans (congrArg some (by kernel_rfl))
  f337 := Tryd.func105.trans (congrArg some (by kernel_rfl))
  f338 := Tryd.func106.trans (congrArg some (by kernel_rfl))
  t0 := Tryd.underlying0
  a0 := Tryd.isAgg0
  z0 := Tryd.sizeOf0
  v0 := Tryd.zeroValue0
  t2 := Tryd.underlying2
  a2 := Tryd.isAgg2
  z2 := Tryd.sizeOf2
  v2 := Tryd.zeroValue2
  t3 := Tryd.underlying3
  a3 := Tryd.isAgg3
  z3 := Tryd.sizeOf3
  v3 := Tryd.zeroValue3
  t4 := Tryd.underlying4
  a4 := Tryd.isAgg4
  z4 := Tryd.sizeOf4
  v4 := Tryd.zeroValue4
  t5 := Tryd.underlying5
  a5 := Tryd.isAgg5
  z5 := Tryd.sizeOf5
  v5 := Tryd.zeroValue5
  t9 := Tryd.underlying9
  a9 := Tryd.isAgg9
  z9 := Tryd.sizeOf9
  v9 := Tryd.zeroValue9
  t20 := Tryd.underlying20
  a20 := Tryd.isAgg20
  z20 := Tryd.sizeOf20
  v20 := Tryd.zeroValue20
  t37 := Tryd.underlying35
  a37 := Tryd.isAgg35
  z37 := Tryd.sizeOf35
  v37 := Tryd.zeroValue35
  t46 := Tryd.underlying93
  a46 := Tryd.isAgg93
  z46 := Tryd.sizeOf93
  v46 := Tryd.zeroValue93
  t51 := Tryd.underlying113
  a51 := Tryd.isAgg113
  z51 := Tryd.sizeOf113
  v51 := Tryd.zeroValue113
  t53 := Tryd.underlying108
  a53 := Tryd.isAgg108
  z53 := Tryd.sizeOf108
  v53 := Tryd.zeroValue108
  t171 := Tryd.underlying107
  a171 := Tryd.isAgg107
  z171 := Tryd.sizeOf107
  v171 := Tryd.zeroValue107
  t173 := Tryd.underlying111
  a173 := Tryd.isAgg111
  z173 := Tryd.sizeOf111
  v173 := Tryd.zeroValue111
  t212 := Tryd.underlying123
  a212 := Tryd.isAgg123
  z212 := Tryd.sizeOf123
  v212 := Tryd.zeroValue123
  t213 := Tryd.underlying124
  a213 := Tryd.isAgg124
  z213 := Tryd.sizeOf124
  t232 := Tryd.underlying141
  a232 := Tryd.isAgg141
  z232 := Tryd.sizeOf141
  v232 := Tryd.zeroValue141
  t233 := Tryd.underlying142
  a233 := Tryd.isAgg142
  z233 := Tryd.sizeOf142
  v233 := Tryd.zeroValue142
  g17 := by kernel_rfl
  g18 := by kernel_rfl
  g19 := by kernel_rfl
  i0 := by kernel_rfl
  i2 := by kernel_rfl
  i3 := by kernel_rfl
  i4 := by kernel_rfl
  i5 := by kernel_rfl
  i9 := by kernel_rfl
  i20 := by kernel_rfl
  i37 := by kernel_rfl
  i46 := by kernel_rfl
  i51 := by kernel_rfl
  i53 := by kernel_rfl
  i171 := by kernel_rfl
  i173 := by kernel_rfl
  i212 := by kernel_rfl
  i232 := by kernel_rfl
  i233 := by kernel_rfl
  m17 := by kernel_rfl
  m18 := by kernel_rfl
  m19 := by kernel_rfl }
def lays145_ren : Go.Shelf.Ren := ⟨fun | 145 => 35 | 220 => 55 | 219 => 66 | 217 => 76 | 225 => 77 | 224 => 78 | 267 => 79 | 266 => 89 | 314 => 90 | n => n, fun | 9 => 9 | 4 => 4 | 59 => 68 | 3 => 3 | 5 => 5 | 46 => 93 | 146 => 114 | 51 => 113 | n => n, fun | 1 => 0 | n => n⟩
theorem lays145 : Go.Proofs.Lays.n145 Tryd.prog lays145_ren := {
  mixed := by kernel_rfl
  f145 := Tryd.func35.trans (congrArg some (by kernel_rfl))
  f217 := Tryd.func76.trans (congrArg some (by kernel_rfl))
  f219 := Tryd.func66.trans (congrArg some (by kernel_rfl))
  f220 := Tryd.func55.trans (congrArg some (by kernel_rfl))
  f224 := Tryd.func78.trans (congrArg some (by kernel_rfl))
  f225 := Tryd.func77.trans (congrArg some (by kernel_rfl))
  f266 := Tryd.func89.trans (congrArg some (by kernel_rfl))
  f267 := Tryd.func79.trans (congrArg some (by kernel_rfl))
  f314 := Tryd.func90.trans (congrArg some (by kernel_rfl))
  t3 := Tryd.underlying3
  a3 := Tryd.isAgg3
  z3 := Tryd.sizeOf3
  v3 := Tryd.zeroValue3
  t4 := Tryd.underlying4
  a4 := Tryd.isAgg4
  z4 := Tryd.sizeOf4
  v4 := Tryd.zeroValue4
  t5 := Tryd.underlying5
  a5 := Tryd.isAgg5
  z5 := Tryd.sizeOf5
  v5 := Tryd.zeroValue5
  t9 := Tryd.underlying9
  a9 := Tryd.isAgg9
  z9 := Tryd.sizeOf9
  v9 := Tryd.zeroValue9
  t46 := Tryd.underlying93
  a46 := Tryd.isAgg93
  z46 := Tryd.sizeOf93
  v46 := Tryd.zeroValue93
  t51 := Tryd.underlying113
  a51 := Tryd.isAgg113
  z51 := Tryd.sizeOf113
  v51 := Tryd.zeroValue113
  t59 := Tryd.underlying68
  a59 := Tryd.isAgg68
  z59 := Tryd.sizeOf68
  v59 := Tryd.zeroValue68
  t146 := Tryd.underlying114
  a146 := Tryd.isAgg114
  z146 := Tryd.sizeOf114
  v146 := Tryd.zeroValue114
  g1 := by kernel_rfl }
def lays100_ren : Go.Shelf.Ren := ⟨fun | 100 => 34 | 207 => 54 | n => n, fun | 9 => 9 | 4 => 4 | 3 => 3 | n => n, fun | n => n⟩
theorem lays100 : Go.Proofs.Lays.n100 Tryd.prog lays100_ren := {
  mixed := by kernel_rfl
  f100 := Tryd.func34.trans (congrArg some (by kernel_rfl))
  f207 := Tryd.func54.trans (congrArg some (by kernel_rfl))
  t3 := Tryd.underlying3
  a3 := Tryd.isAgg3
  z3 := Tryd.sizeOf3
  v3 := Tryd.zeroValue3
  t4 := Tryd.underlying4
  a4 := Tryd.isAgg4
  z4 := Tryd.sizeOf4
  v4 := Tryd.zeroValue4
  t9 := Tryd.underlying9
  a9 := Tryd.isAgg9
  z9 := Tryd.sizeOf9
  v9 := Tryd.zeroValue9 }
def laysM146_ren : Go.Shelf.Ren := ⟨fun | 146 => 36 | 221 => 56 | 268 => 67 | 138 => 68 | 143 => 69 | 195 => 80 | 197 => 81 | 218 => 82 | 219 => 66 | 260 => 91 | 217 => 76 | 225 => 77 | 224 => 78 | 267 => 79 | 266 => 89 | 314 => 90 | n => n, fun | 9 => 9 | 31 => 43 | 3 => 3 | 4 => 4 | 0 => 0 | 105 => 104 | 21 => 21 | 5 => 5 | 46 => 93 | 119 => 127 | 139 => 130 | 138 => 129 | 146 => 114 | 51 => 113 | n => n, fun | 1 => 0 | 3 => 2 | 4 => 3 | n => n⟩
theorem laysM146 : Go.Proofs.LaysM.n146 Tryd.prog laysM146_ren := {
  mixed := by kernel_rfl
  f138 := Tryd.func68.trans (congrArg some (by kernel_rfl))
  f143 := Tryd.func69.trans (congrArg some (by kernel_rfl))
  f146 := Tryd.func36.trans (congrArg some (by kernel_rfl))
  f195 := Tryd.func80.trans (congrArg some (by kernel_rfl))
  f197 := Tryd.func81.trans (congrArg some (by kernel_rfl))
  f217 := Tryd.func76.trans (congrArg some (by kernel_rfl))
  f218 := Tryd.func82.trans (congrArg some (by kernel_rfl))
  f219 := Tryd.func66.trans (congrArg some (by kernel_rfl))
  f221 := Tryd.func56.trans (congrArg some (by kernel_rfl))
  f224 := Tryd.func78.trans (congrArg some (by kernel_rfl))
  f225 := Tryd.func77.trans (congrArg some (by kernel_rfl))
  f260 := Tryd.func91.trans (congrArg some (by kernel_rfl))
  f266 := Tryd.func89.trans (congrArg some (by kernel_rfl))
  f267 := Tryd.func79.trans (congrArg some (by kernel_rfl))
  f268 := Tryd.func67.trans (congrArg some (by kernel_rfl))
  f314 := Tryd.func90.trans (congrArg some (by kernel_rfl))
  t0 := Tryd.underlying0
  a0 := Tryd.isAgg0
  z0 := Tryd.sizeOf0
  v0 := Tryd.zeroValue0
  t3 := Tryd.underlying3
  a3 := Tryd.isAgg3
  z3 := Tryd.sizeOf3
  v3 := Tryd.zeroValue3
  t4 := Tryd.underlying4
  a4 := Tryd.isAgg4
  z4 := Tryd.sizeOf4
  v4 := Tryd.zeroValue4
  t5 := Tryd.underlying5
  a5 := Tryd.isAgg5
  z5 := Tryd.sizeOf5
  v5 := Tryd.zeroValue5
  t9 := Tryd.underlying9
  a9 := Tryd.isAgg9
  z9 := Tryd.sizeOf9
  v9 := Tryd.zeroValue9
  t21 := Tryd.underlying21
  a21 := Tryd.isAgg21
  z21 := Tryd.sizeOf21
  v21 := Tryd.zeroValue21
  t31 := Tryd.underlying43
  a31 := Tryd.isAgg43
  z31 := Tryd.sizeOf43
  v31 := Tryd.zeroValue43
  t46 := Tryd.underlying93
  a46 := Tryd.isAgg93
  z46 := Tryd.sizeOf93
  v46 := Tryd.zeroValue93
  t51 := Tryd.underlying113
  a51 := Tryd.isAgg113
  z51 := Tryd.sizeOf113
  v51 := Tryd.zeroValue113
  t105 := Tryd.underlying104
  a105 := Tryd.isAgg104
  z105 := Tryd.sizeOf104
  v105 := Tryd.zeroValue104
  t119 := Tryd.underlying127
  a119 := Tryd.isAgg127
  z119 := Tryd.sizeOf127
  t138 := Tryd.underlying129
  a138 := Tryd.isAgg129
  z138 := Tryd.sizeOf129
  v138 := Tryd.zeroValue129
  t139 := Tryd.underlying130
  a139 := Tryd.isAgg130
  z139 := Tryd.sizeOf130
  v139 := Tryd.zeroValue130
  t146 := Tryd.underlying114
  a146 := Tryd.isAgg114
  z146 := Tryd.sizeOf114
  v146 := Tryd.zeroValue114
  g1 := by kernel_rfl
  g3 := by kernel_rfl
  g4 := by kernel_rfl
  i0 := by kernel_rfl
  i3 := by kernel_rfl
  i4 := by kernel_rfl
  i5 := by kernel_rfl
  i9 := by kernel_rfl
  i21 := by kernel_rfl
  i31 := by kernel_rfl
  i46 := by kernel_rfl
  i51 := by kernel_rfl
  i105 := by kernel_rfl
  i138 := by kernel_rfl
  i139 := by kernel_rfl
  i146 := by kernel_rfl
  m1 := by kernel_rfl
  s1_3 := fun w h => Go.Proofs.cell_of_shapedOpen_int (zero := #[.int .i64 0]) (t := 3) h (of_decide_eq_true (by kernel_rfl)) (by kernel_rfl) rfl (by kernel_rfl) (by kernel_rfl) Tryd.underlying3
  m3 := by kernel_rfl
  m4 := by kernel_rfl }
theorem builderExtra156 : Builder.Extra Tryd.prog lays156_ren := {
  sizeBuilder := by kernel_rfl
  liesBuilder := by kernel_rfl
  t5 := Tryd.underlying5
  a5 := Tryd.isAgg5
  z5 := Tryd.sizeOf5
  v5 := Tryd.zeroValue5
  infoByte := by kernel_rfl
  cellsByte := by kernel_rfl
  sizeByte := by kernel_rfl
  neB5 := by decide }
end Go.Proofs.YthfoclblmdnckaaDoor
/- Maps whose keys are strings: made, read, written. -/
set_option linter.unusedVariables false
set_option linter.unusedSimpArgs false
namespace Go.Abs
variable {Z : Pg}
theorem XRep.ov {w : World} {G : Gh} {u v : Value} (h : XRep w G (.v (.c (.o u))) v) : v = u := by
  cases h; rfl
/-- The value at a key. -/
def mget : List (List UInt8 × Value) → List UInt8 → Option Value
  | [], _ => none
  | (a, v) :: r, k => if a = k then some v else mget r k
/-- The entries with another one. -/
def mput : List (List UInt8 × Value) → List UInt8 → Value → List (List UInt8 × Value)
  | [], k, v => [(k, v)]
  | (a, u) :: r, k, v => if a = k then (k, v) :: r else (a, u) :: mput r k v
def mrow (p : List UInt8 × Value) : Value × Value := ((.string ⟨p.1.toArray⟩ : Value), p.2)
theorem str_inj {a k : List UInt8} (h : (Value.string ⟨a.toArray⟩) = .string ⟨k.toArray⟩) : a = k := by
  injection h with h; injection h with h; injection h
theorem findNow_es (k : List UInt8) : ∀ (ms : List MapEntry) (es : List (List UInt8 × Value)) (i : Nat), ms.map (fun e => (e.key, e.val)) = es.map mrow →
    (mget es k = none ∧ Instr.findNow .string (.string ⟨k.toArray⟩) ms i = some none ∧ ∀ v, mput es k v = es ++ [(k, v)]) ∨
    ∃ j e v, mget es k = some v ∧ Instr.findNow .string (.string ⟨k.toArray⟩) ms i = some (some (i + j, v)) ∧ ms[j]? = some e ∧ e.key = .string ⟨k.toArray⟩ ∧
      ∀ u, (ms.modify j fun e => { e with key := .string ⟨k.toArray⟩, val := u }).map (fun e => (e.key, e.val)) = (mput es k u).map mrow
  | [], [], i, _ => .inl ⟨rfl, rfl, fun _ => rfl⟩
  | [], _ :: _, _, h => by simp at h
  | _ :: _, [], _, h => by simp at h
  | e :: ms, (a, u) :: es, i, h => by
    simp only [List.map_cons, List.cons.injEq, mrow, Prod.mk.injEq] at h
    obtain ⟨⟨h1, h2⟩, h3⟩ := h
    have hs : Instr.sameNow .string (.string ⟨k.toArray⟩) e.key = some (decide (k = a)) := by
      rw [h1]
      obtain ⟨r, hr, hiff⟩ := MapKept.sameNow_of_keys (d := .string) (a := .string ⟨k.toArray⟩) (b := .string ⟨a.toArray⟩) (by simp [MapKept.IsKey]) (by simp [MapKept.IsKey])
      rw [hr]
      congr 1
      by_cases hk : k = a
      · subst hk; rw [hiff.2 rfl]; simp
      · rw [decide_eq_false hk]
        cases r with
        | false => rfl
        | true => exact absurd (str_inj (hiff.1 rfl)) hk
    by_cases hk : k = a
    · subst hk
      right
      refine ⟨0, e, u, by simp [mget], ?_, rfl, h1, fun x => ?_⟩
      · rw [Instr.findNow, hs]; simp [h2]
      · simp only [mput, if_pos, List.modify_zero_cons, List.map_cons, mrow]
        rw [h3]
    · rw [Instr.findNow, hs, decide_eq_false hk]
      have hk' : ¬ a = k := fun q => hk q.symm
      rcases findNow_es k ms es (i + 1) h3 with ⟨q1, q2, q3⟩ | ⟨j, e', v, q1, q2, q3, q4, q5⟩
      · exact .inl ⟨by simp [mget, hk', q1], q2, fun v => by simp [mput, hk', q3]⟩
      · refine .inr ⟨j + 1, e', v, by simp [mget, hk', q1], ?_, by simpa using q3, q4, fun x => ?_⟩
        · rw [q2, show i + 1 + j = i + (j + 1) by omega]
        · simp only [List.modify_succ_cons, List.map_cons, mput, if_neg hk', mrow, q5]
          rw [h1, h2]
/-- A set of strings. -/
def mset (l : List (List UInt8)) : List (List UInt8 × Value) := l.map fun k => (k, .bool true)
theorem mset_get (l : List (List UInt8)) (k : List UInt8) : mget (mset l) k = if k ∈ l then some (.bool true) else none := by
  induction l with
  | nil => rfl
  | cons a l ih =>
    show (if a = k then some (Value.bool true) else mget (mset l) k) = _
    rw [ih]
    by_cases h : a = k
    · subst h; simp
    · have : ¬ k = a := fun e => h e.symm
      simp [h, this]
theorem mset_put {l : List (List UInt8)} {k : List UInt8} (h : k ∉ l) : mput (mset l) k (.bool true) = mset (l ++ [k]) := by
  induction l with
  | nil => rfl
  | cons a l ih =>
    have h1 : ¬ a = k := fun e => h (by simp [e])
    show (if a = k then _ else (a, Value.bool true) :: mput (mset l) k (.bool true)) = _
    rw [if_neg h1, ih (fun e => h (by simp [e]))]; rfl
section
variable {N : Nat} {ops : Array Oper} {rest : List Oper} {K : St → Prop} {st : St} {o : Oper} {d : Nat}
def St.addMap (st : St) (b : Nat) (f : Bool) (es : List (List UInt8 × Value)) : St := { st with mp := (b, f, es) :: st.mp }
theorem Rel.addMap {E : Env} {G : Gh} {a : Act} {w : World} (h : Rel E G st a w) {b : Nat} {f : Bool} {es : List (List UInt8 × Value)} (h1 : MapAt w b es) (h2 : f = true → E.B ≤ b) (h3 : ∀ o, (∀ n, G.W b o ≠ .box n) ∧ ∀ p, G.W b o ≠ .own p) : Rel E G (st.addMap b f es) a w where
  df := h.df
  tm := h.tm
  bx := h.bx
  ow := h.ow
  wf := h.wf
  olB := h.olB
  olO := h.olO
  nt := h.nt
  oA := h.oA
  im := h.im
  im' := h.im'
  fr := h.fr
  hB := h.hB
  lo := h.lo
  bd := h.bd
  mp := fun x hx => by
    rcases List.mem_cons.1 hx with rfl | hx
    · exact ⟨h1, h2, h3⟩
    · exact h.mp x hx
/-- A new map. -/
theorem al_makeMap {t : TypeId} (ho : o.op = .makeMap t none) (hg : gateOf ops st o = some true) (hd : o.dst = some d) (hN : Nat.ble (d + 1) N = true)
    (h : ∀ b, AL Z N ops rest K ((st.put d (true, .v (.c (.o (.map (some b)))))).addMap b true [])) : AL Z N ops (o :: rest) K st := by
  intro E G a w hr hE K' hK
  have hdN : d < E.nt := by rw [hE.nt]; exact Nat.le_of_ble_eq_true hN
  unfold wpList
  rw [wanted_gate hr hg, if_pos rfl]
  refine .inl ?_
  unfold Oper.wp
  have : (execOp a.eval o).run Z.P w = .ok (.value (.map (some w.heap.size))) (w.alloc (.map #[] 0)) := by
    simp [execOp, ho, Instr.makeMap]
  rw [this, Oper.upon_value, hd]
  have hg1 : Rel E G st a (w.alloc (.map #[] 0)) := hr.grow (fr_alloc w _) (fun _ _ _ => rfl) (SameA.refl _ _) (fun b o' hb => by have := hr.wf b o' hb; simp; omega)
  have hp := hg1.put hdN (g := true) (x := .v (.c (.o (.map (some w.heap.size))))) (v := .map (some w.heap.size)) (fun _ => CRep.o _ rfl) (fun hf => by simp at hf)
  have hno : ∀ o', G.W w.heap.size o' = .none := fun o' => by
    cases hw : G.W w.heap.size o' with
    | none => rfl
    | _ => have := hr.wf w.heap.size o' (by rw [hw]; simp); omega
  have hm := hp.addMap (b := w.heap.size) (f := true) (es := []) ⟨#[], 0, Array.getElem?_push_size, rfl⟩ (fun _ => Nat.le_trans hr.hB hr.fr.size) (fun o' => by rw [hno]; exact ⟨fun n => by simp, fun p => by simp⟩)
  exact h w.heap.size E G _ _ hm hE K' hK
theorem findNow_run {w : World} {b : Nat} {ms : Array MapEntry} {clock : Nat} {kt : TypeId} {k : List UInt8} {a : Option (Nat × Value)} (hk : Z.P.underlying kt = some .string) (h : Instr.findNow .string (.string ⟨k.toArray⟩) ms.toList 0 = some a) :
    (Instr.findKey kt (.string ⟨k.toArray⟩) ms.toList).run Z.P w = .ok a w := MapKept.run_findKey hk h
theorem Rel.mem_map {E : Env} {G : Gh} {a : Act} {w : World} (h : Rel E G st a w) {i b : Nat} {f : Bool} {es : List (List UInt8 × Value)} (hm : st.mp[i]? = some (b, f, es)) : MapAt w b es ∧ (f = true → E.B ≤ b) ∧ ∀ o, (∀ n, G.W b o ≠ .box n) ∧ ∀ p, G.W b o ≠ .own p :=
  h.mp _ (List.mem_of_getElem? hm)
/-- What stands at a key, or the zero value of a kind that is one cell. -/
def mval (es : List (List UInt8 × Value)) (k : List UInt8) (z : Value) : Value := (mget es k).getD z
theorem run_lookup {w : World} {t kt et : TypeId} {b : Nat} {es : List (List UInt8 × Value)} {k : List UInt8} {z : Value} (ht : Z.P.underlying t = some (.map kt et)) (hk : Z.P.underlying kt = some .string) (hz : (Z.P.info? et).bind (·.zero) = some z) (hm : MapAt w b es) (ok : Bool) :
    (Instr.lookup t (.map (some b)) (.string ⟨k.toArray⟩) ok).run Z.P w = .ok (if ok then .tuple #[mval es k z, .bool (mget es k).isSome] else mval es k z) w := by
  obtain ⟨ms, clock, h1, h2⟩ := hm
  have hck : ∀ e n, (Instr.checkKey e (n + 1) kt (.string ⟨k.toArray⟩)).run Z.P w = .ok () w := fun e n => MapKept.run_checkKey hk (by simp [MapKept.IsKey]) e n
  have hzr : (zeroValue et).run Z.P w = .ok z w := by
    obtain ⟨j, h3, h4⟩ := Option.bind_eq_some_iff.1 hz
    simp [zeroValue, typeInfo, h3, h4]
  rcases findNow_es k ms.toList es 0 h2 with ⟨q1, q2, _⟩ | ⟨i, e, v, q1, q2, _⟩
  · simp [Instr.lookup, run_underlying ht, MapKept.run_getObj_map h1, hck, MapKept.run_findKey hk q2, hzr, Result.andThen, q1, mval]
  · simp [Instr.lookup, run_underlying ht, MapKept.run_getObj_map h1, hck, MapKept.run_findKey hk q2, Result.andThen, q1, mval]
/-- 'm[k]' -/
theorem pure_lookup {ty : TypeId} {gate g gk : Bool} {t kt et : TypeId} {x y : Operand} {b i : Nat} {f : Bool} {es : List (List UInt8 × Value)} {k : List UInt8} {z : Value} {c : C} (hx : lk Z.T st ty x = some (g, .v (.c (.o (.map (some b)))))) (hy : lk Z.T st ty y = some (gk, .v (.c (.s k))))
    (hg : gate = true → g = true) (hgk : gate = true → gk = true) (hm : st.mp[i]? = some (b, f, es)) (ht : Z.P.underlying t = some (.map kt et)) (hk : Z.P.underlying kt = some .string) (hz : (Z.P.info? et).bind (·.zero) = some z) (hc : ∀ w S, CRep w S c (mval es k z)) :
    PureOk Z st (.lookup t x y false) ty gate (.v (.c c)) := by
  intro o E G a w ho _ hr hgt
  have h1 := XRep.ov (lk_rep hr hx (hg hgt))
  have h2 := XRep.str (lk_rep hr hy (hgk hgt))
  refine ⟨mval es k z, hc _ _, ?_⟩
  simp [execOp, ho, h1, h2, run_lookup ht hk hz (hr.mem_map hm).1]
/-- 'v, ok := m[k]' -/
theorem pure_lookupOk {ty : TypeId} {gate g gk : Bool} {t kt et : TypeId} {x y : Operand} {b i : Nat} {f : Bool} {es : List (List UInt8 × Value)} {k : List UInt8} {z : Value} {c : C} {r : Bool} (hx : lk Z.T st ty x = some (g, .v (.c (.o (.map (some b)))))) (hy : lk Z.T st ty y = some (gk, .v (.c (.s k))))
    (hg : gate = true → g = true) (hgk : gate = true → gk = true) (hm : st.mp[i]? = some (b, f, es)) (ht : Z.P.underlying t = some (.map kt et)) (hk : Z.P.underlying kt = some .string) (hz : (Z.P.info? et).bind (·.zero) = some z) (hc : ∀ w S, CRep w S c (mval es k z)) (hr' : (mget es k).isSome = r) :
    PureOk Z st (.lookup t x y true) ty gate (.tup [.c c, .c (.b r)]) := by
  intro o E G a w ho _ hr hgt
  have h1 := XRep.ov (lk_rep hr hx (hg hgt))
  have h2 := XRep.str (lk_rep hr hy (hgk hgt))
  refine ⟨.tuple #[mval es k z, .bool (mget es k).isSome], ⟨[mval es k z, .bool (mget es k).isSome], rfl, hc _ _, ?_, trivial⟩, ?_⟩
  · rw [hr']; exact CRep.b _
  · simp [execOp, ho, h1, h2, run_lookup ht hk hz (hr.mem_map hm).1]
theorem fr_set {w : World} {b : Nat} {M : Nat → Nat → Prop} {B : Nat} {ob : Obj} {ms : Array MapEntry} {clock : Nat} (hb : w.heap[b]? = some (.map ms clock)) (ms' : Array MapEntry) (c' : Nat) (hB : B ≤ b) : Fr M B w { w with heap := w.heap.setIfInBounds b (.map ms' c') } where
  os := rfl
  tape := rfl
  output := rfl
  size := by simp
  block := fun k hk _ => by simp [Array.getElem?_setIfInBounds, show ¬ b = k by omega]
  cell := fun k o' hk _ => by
    unfold World.cell?
    simp [Array.getElem?_setIfInBounds, show ¬ b = k by omega]
  mark := fun k hk => by
    unfold markOf
    simp [Array.getElem?_setIfInBounds, show ¬ b = k by omega]
  shape := fun k hk => by
    unfold World.shape?
    simp [Array.getElem?_setIfInBounds, show ¬ b = k by omega]
/-- 'st' with other entries in the map that stands first. -/
def St.setMap (st : St) (es : List (List UInt8 × Value)) : St := { st with mp := match st.mp with | (b, f, _) :: r => (b, f, es) :: r | [] => [] }
theorem Rel.setMap {E : Env} {G : Gh} {a : Act} {w : World} (h : Rel E G st a w) {b : Nat} {es es' : List (List UInt8 × Value)} (hm : st.mp = [(b, true, es)]) {ms' : Array MapEntry} {c' : Nat} (he : ms'.toList.map (fun e => (e.key, e.val)) = es'.map mrow) :
    Rel E G (st.setMap es') a { w with heap := w.heap.setIfInBounds b (.map ms' c') } := by
  have h0 := h.mp (b, true, es) (by rw [hm]; simp)
  dsimp only at h0
  obtain ⟨⟨ms, clock, hb, _⟩, hB, hno⟩ := h0
  have hB := hB rfl
  have hcell : ∀ k o', ({ w with heap := w.heap.setIfInBounds b (.map ms' c') } : World).cell? ⟨k, o', none⟩ = w.cell? ⟨k, o', none⟩ := fun k o' => by
    unfold World.cell?
    by_cases hk : b = k
    · subst hk
      simp only [hb]
      have hlt := (Array.getElem?_eq_some_iff.1 hb).1
      simp [Array.getElem?_setIfInBounds, hlt]
    · simp [Array.getElem?_setIfInBounds, hk]
  have hmark : ∀ k, markOf ({ w with heap := w.heap.setIfInBounds b (.map ms' c') } : World) k = markOf w k := fun k => by
    unfold markOf
    by_cases hk : b = k
    · subst hk
      have e1 : (w.heap.setIfInBounds b (.map ms' c'))[b]? = some (.map ms' c') := (MapKept.heap_set hb).1
      simp only [e1, hb]
    · simp [Array.getElem?_setIfInBounds, hk]
  have hshape : ∀ k, ({ w with heap := w.heap.setIfInBounds b (.map ms' c') } : World).shape? k = w.shape? k := fun k => by
    unfold World.shape?
    by_cases hk : b = k
    · subst hk
      have e1 : (w.heap.setIfInBounds b (.map ms' c'))[b]? = some (.map ms' c') := (MapKept.heap_set hb).1
      simp only [e1, hb]
    · simp [Array.getElem?_setIfInBounds, hk]
  have hmono : ∀ {c : C} {v : Value}, CRep w G.S c v → CRep ({ w with heap := w.heap.setIfInBounds b (.map ms' c') } : World) G.S c v := fun hc => hc.mono (fun _ _ h => h) (fun _ _ _ => hcell _ _)
  constructor
  · exact h.df
  · intro k g x hk
    obtain ⟨v, hv, h1, h2⟩ := h.tm k g x hk
    exact ⟨v, hv, fun hg => (h1 hg).mono (fun _ _ h => h) (fun _ _ _ => hcell _ _) (fun _ _ => rfl), h2⟩
  · intro n cs hn j c hj
    obtain ⟨q1, q2, v, q3, q4⟩ := h.bx n cs hn j c hj
    exact ⟨q1, by rw [frozen_of (hmark _)]; exact q2, v, by rw [hcell]; exact q3, hmono q4⟩
  · intro p sz hp
    obtain ⟨v, hv, ho⟩ := h.ow p sz hp
    refine ⟨v, ?_, ?_⟩
    · cases p with
      | t k => exact hv
      | b n off => exact ⟨by rw [hcell]; exact hv.1, hv.2⟩
    · rcases ho with ho | ⟨blk, len, cap, e, q1, q2, q3, q4⟩
      · exact .inl ho
      · exact .inr ⟨blk, len, cap, e, q1, q2, ⟨by rw [hshape]; exact q3.1, by rw [hmark]; exact q3.2⟩, fun o' ho1 ho2 => by rw [frozen_of (hmark _)]; exact q4 o' ho1 ho2⟩
  · intro k o' hk
    have := h.wf k o' hk
    simpa using this
  · exact h.olB
  · exact h.olO
  · exact h.nt
  · exact h.oA
  · exact h.im
  · exact h.im'
  · exact h.fr.trans (fr_set (ob := .map ms clock) hb ms' c' hB)
  · exact h.hB
  · exact h.lo
  · intro t k cs hn hne
    obtain ⟨q1, q2, x, q3, q4⟩ := h.bd t k cs hn hne
    exact ⟨q1, by rw [hshape]; exact q2, x, by rw [hcell]; exact q3, q4⟩
  · intro x hx
    have hx : x ∈ ([(b, true, es')] : List (Nat × Bool × List (List UInt8 × Value))) := by simpa [St.setMap, hm] using hx
    obtain rfl : x = (b, true, es') := by simpa using hx
    refine ⟨⟨ms', c', ?_, he⟩, fun _ => hB, hno⟩
    have hlt := (Array.getElem?_eq_some_iff.1 hb).1
    simp [Array.getElem?_setIfInBounds, hlt]
/-- 'm[k] = v' -/
theorem does_mapUpdate {ty : TypeId} {t kt et : TypeId} {x y v : Operand} {b : Nat} {es : List (List UInt8 × Value)} {k : List UInt8} {c : C} {u : Value} (hx : lk Z.T st ty x = some (true, .v (.c (.o (.map (some b)))))) (hy : lk Z.T st ty y = some (true, .v (.c (.s k)))) (hv : lk Z.T st ty v = some (true, .v (.c c)))
    (hm : st.mp = [(b, true, es)]) (ht : Z.P.underlying t = some (.map kt et)) (hk : Z.P.underlying kt = some .string) (hc : ∀ w S v, CRep w S c v → v = u) :
    Does Z N st none (.mapUpdate t x y v) ty (st.setMap (mput es k u)) := by
  intro o E G a w hd ho _ hr hE K Q hK
  have h1 := XRep.ov (lk_rep hr hx rfl)
  have h2 := XRep.str (lk_rep hr hy rfl)
  have h3 : a.eval v = u := hc _ _ _ (lk_rep hr hv rfl)
  have h0 := hr.mp (b, true, es) (by rw [hm]; simp)
  dsimp only at h0
  obtain ⟨⟨ms, clock, hb, he⟩, _, _⟩ := h0
  have hck : ∀ e n, (Instr.checkKey e (n + 1) kt (.string ⟨k.toArray⟩)).run Z.P w = .ok () w := fun e n => MapKept.run_checkKey hk (by simp [MapKept.IsKey]) e n
  unfold Oper.wp
  rcases findNow_es k ms.toList es 0 he with ⟨q1, q2, q3⟩ | ⟨i, e, w', q1, q2, q3, q4, q5⟩
  · have : (Instr.mapUpdate t (.map (some b)) (.string ⟨k.toArray⟩) u).run Z.P w = .ok () { w with heap := w.heap.setIfInBounds b (.map (ms.push { key := .string ⟨k.toArray⟩, val := u, born := clock }) (clock + 1)) } := by
      simp [Instr.mapUpdate, run_underlying ht, MapKept.run_getObj_map hb, hck, MapKept.run_findKey hk q2, MapKept.run_setObj_map _ hb, Result.andThen]
    have hrun : (execOp a.eval o).run Z.P w = .ok .skip { w with heap := w.heap.setIfInBounds b (.map (ms.push { key := .string ⟨k.toArray⟩, val := u, born := clock }) (clock + 1)) } := by
      simp [execOp, ho, h1, h2, h3, this]
    rw [hrun, Oper.upon_skip, hd]
    have := hr.setMap hm (es' := mput es k u) (ms' := ms.push { key := .string ⟨k.toArray⟩, val := u, born := clock }) (c' := clock + 1) (by rw [q3, Array.toList_push, List.map_append, List.map_append, he]; rfl)
    exact hK G undef _ this
  · have hj : ms[i]? = some e := by simpa using q3
    have hst : (Instr.keyThatStays e.key (.string ⟨k.toArray⟩)).run Z.P w = .ok (.string ⟨k.toArray⟩) w := by
      rw [q4]; exact MapKept.run_keyThatStays (d := .string) (by simp [MapKept.IsKey])
    have : (Instr.mapUpdate t (.map (some b)) (.string ⟨k.toArray⟩) u).run Z.P w = .ok () { w with heap := w.heap.setIfInBounds b (.map (ms.modify i fun e => { e with key := .string ⟨k.toArray⟩, val := u }) clock) } := by
      simp [Instr.mapUpdate, run_underlying ht, MapKept.run_getObj_map hb, hck, MapKept.run_findKey hk q2, hj, hst, MapKept.run_setObj_map _ hb, Result.andThen]
    have hrun : (execOp a.eval o).run Z.P w = .ok .skip { w with heap := w.heap.setIfInBounds b (.map (ms.modify i fun e => { e with key := .string ⟨k.toArray⟩, val := u }) clock) } := by
      simp [execOp, ho, h1, h2, h3, this]
    rw [hrun, Oper.upon_skip, hd]
    have := hr.setMap hm (es' := mput es k u) (ms' := ms.modify i fun e => { e with key := .string ⟨k.toArray⟩, val := u }) (c' := clock) (by rw [← q5 u]; simp [Array.toList_modify])
    exact hK G undef _ this
/-- A loop in which maps change. -/
theorem awp_forM {N : Nat} {ι : Type} {c : Code} {Q : Exit → St → Prop} {st : St} (F : St) (V : ι → List (Nat × Bool × X)) (VB : ι → List (Nm × List C)) (VM : ι → List (Nat × Bool × List (List UInt8 × Value))) (ok : ι → Prop) (m : ι → Nat) (i0 : ι) (h0 : ok i0)
    (hs : Sub { t := V i0 ++ F.t, bx := VB i0 ++ F.bx, ow := F.ow, mp := VM i0 } st)
    (round : ∀ i, ok i → AWP Z N c (thenS (fun s => ∃ j, ok j ∧ m j < m i ∧ Sub { t := V j ++ F.t, bx := VB j ++ F.bx, ow := F.ow, mp := VM j } s) Q) { t := V i ++ F.t, bx := VB i ++ F.bx, ow := F.ow, mp := VM i }) : AWP Z N (.loop c) Q st :=
  awp_loop (fun i => { t := V i ++ F.t, bx := VB i ++ F.bx, ow := F.ow, mp := VM i }) ok m i0 h0 hs round
end
end Go.Abs
/- Interfaces held against nil. -/
set_option linter.unusedVariables false
set_option linter.unusedSimpArgs false
namespace Go.Abs
variable {Z : Pg} {st : St}
/-- 'x == nil' of a nil interface. -/
theorem pure_eqNilIface {ty : TypeId} {gate g : Bool} {t t' : TypeId} {x : Operand} {ms : Array (String × TypeId)} (hx : lk Z.T st ty x = some (g, .v (.c (.o .nilIface)))) (hg : gate = true → g = true)
    (hu : Z.P.underlying t = some (.interface ms)) : PureOk Z st (.binOp .eql t x (.const .nilIface) t') ty gate (.v (.c (.b true))) := by
  intro o E G a w ho _ hr hgt
  have h1 := XRep.ov (lk_rep hr hx (hg hgt))
  refine ⟨.bool true, CRep.b _, ?_⟩
  have hm : Z.P.underlying t = some (.interface (Z.P.methodsAt t)) := by
    rw [hu]; simp [Program.methodsAt, hu]
  simp [execOp, ho, h1, eval_const, eqGuard, run_eql_nil_nil w t hm]
end Go.Abs
/- Contracts: functions of the library, and how texts fall into parts. -/
set_option linter.unusedVariables false
set_option linter.unusedSimpArgs false
namespace Go.Proofs.YthfoclblmdnckaaDoor
open Go Go.Abs
open Go.RowKit (Below)
theorem u8_back {c : UInt8} {n : Int} (h : n = (c.toNat : Int)) : n.toNat.toUInt8 = c := by
  subst h
  rw [Int.toNat_natCast]
  exact UInt8.ofNat_toNat
theorem indexByte_spec (s : List UInt8) (c : UInt8) (n : Int) (h : n = (c.toNat : Int)) : Ctr sys 71 [xs s, xu n] [] (xi (Lib.indexByte s c)) none [] := by
  refine ctr_pure [.string ⟨s.toArray⟩, .int .u8 n] ⟨_, Tryd.func71, by kernel_rfl, by kernel_rfl⟩ (fun w G vs hv => ?_) (fun w => by
    have := Any.strings_IndexByte lays137 ⟨s.toArray⟩ n w
    rw [u8_back h] at this
    exact this) (fun w G => CRep.i _ _)
  match vs, hv with
  | [u, v], ⟨h1, h2, _⟩ => rw [XRep.str h1, XRep.int h2]
theorem hasSuffix_spec (s p : List UInt8) (hs : s.length ≤ 1000000) : Ctr sys 34 [xs s, xs p] [] (xb (p.isSuffixOf s)) none [] := by
  refine ctr_pure [.string ⟨s.toArray⟩, .string ⟨p.toArray⟩] ⟨_, Tryd.func34, by kernel_rfl, by kernel_rfl⟩ (fun w G vs h => ?_) (fun w => Any.strings_HasSuffix lays100 ⟨s.toArray⟩ ⟨p.toArray⟩ w (by show s.length ≤ _; omega)) (fun w G => CRep.b _)
  match vs, h with
  | [u, v], ⟨h1, h2, _⟩ => rw [XRep.str h1, XRep.str h2]
theorem below_drewN (w : World) (n : Nat) : Below w.heap.size w (w.drewN n) := ⟨rfl, rfl, rfl, Nat.le_refl _, fun i hi => rfl⟩
theorem cut_spec (s p : List UInt8) (hs : s.length ≤ 1000000) : Ctr sys 35 [xs s, xs p] [] (.tup [.c (.s (Lib.cut s p).1), .c (.s (Lib.cut s p).2.1), .c (.b (Lib.cut s p).2.2)]) none [] := by
  have hl : (Lib.cut s p).1.length ≤ s.length ∧ (Lib.cut s p).2.1.length ≤ s.length := by
    unfold Lib.cut
    split
    · simp only [List.length_take, List.length_drop]; omega
    · simp
  refine ctr_below (v := .tuple #[.string ⟨(Lib.cut s p).1.toArray⟩, .string ⟨(Lib.cut s p).2.1.toArray⟩, .bool (Lib.cut s p).2.2]) ⟨_, Tryd.func35, by kernel_rfl, by kernel_rfl⟩ (fun w G vs hv hwf hgl => ?_)
    (fun w G => ⟨[_, _, _], rfl, CRep.s _ (by omega), CRep.s _ (by omega), CRep.b _, trivial⟩)
  obtain ⟨m, hm⟩ := (hgl (0, intAt) (by simp [sys])).2.1.cell
  have := Any.strings_Cut lays145 ⟨s.toArray⟩ ⟨p.toArray⟩ m w (by show s.length < _; omega) hm
  match vs, hv with
  | [u, v], ⟨h1, h2, _⟩ =>
    rw [XRep.str h1, XRep.str h2]
    refine this.mono ?_
    rintro e w' ⟨he, n, hw⟩
    subst hw
    exact ⟨he, below_drewN w n⟩
theorem grow_below (w : World) (k : Nat) (os : Array Obj) : Below w.heap.size w (Sort.grow (w.drewN k) os) :=
  ⟨rfl, rfl, rfl, by show w.heap.size ≤ (w.heap ++ os).size; rw [Array.size_append]; omega, fun i hi => by show (w.heap ++ os)[i]? = _; rw [Array.getElem?_append_left hi]⟩
theorem dec_len : ∀ (k u : Nat), u < 10 ^ (k + 1) → (Lib.decDigits u).length ≤ k + 1
  | 0, u, h => by rw [Lib.decDigits, dif_pos (by simpa using h)]; simp
  | k + 1, u, h => by
    rw [Lib.decDigits]
    split
    · simp
    · have := dec_len k (u / 10) (by rw [Nat.pow_succ] at h; omega)
      simp only [List.length_append, List.length_singleton]
      omega
theorem itoa_spec (n : Nat) (h1 : n ≤ 1000000) (m : Int) (hm : m = n) : Ctr sys 51 [xi m] [] (xs (Lib.decDigits n)) none [] := by
  subst hm
  have hl := dec_len 6 n (by omega)
  refine ctr_below (v := .string ⟨(Lib.decDigits n).toArray⟩) ⟨_, Tryd.func51, by kernel_rfl, by kernel_rfl⟩ (fun w G vs hv hwf hgl => ?_) (fun w G => CRep.s _ (by omega))
  obtain ⟨t, s, hb⟩ := (hgl (1, rowIs (Lib.pow10Tab.map fun z => Value.int .u64 z).toArray) (by simp [sys])).2.1
  have htab : Lib.TabIs Tryd.prog w "internal/strconv.uint64pow10" .u64 Lib.pow10Tab := by
    unfold Lib.TabIs World.var?
    rw [show Tryd.prog.globalNamed "internal/strconv.uint64pow10" = some 1 by kernel_rfl]
    show (match w.heap[1]? with | some (.cells cs _ _) => some cs | _ => none) = _
    rw [hb]
  have := Any.strconv_Itoa laysM171 (n : Int) (by omega) (by omega) w htab
  match vs, hv with
  | [u], ⟨e1, _⟩ =>
    rw [XRep.int e1]
    refine this.mono ?_
    rintro e w' ⟨he, k, os, hw⟩
    subst hw
    refine ⟨?_, grow_below w k os⟩
    rw [he, Lib.itoa, if_neg (by omega), Int.toNat_natCast]
theorem atoi_spec (s : List UInt8) (n : Int) (hl : s.length ≤ 18) (h : Lib.atoi s = some n) : Ctr sys 70 [xs s] [] (.tup [.c (.i .i64 n), .c (.o .nilIface)]) none [] := by
  refine ctr_below (v := .tuple #[.int .i64 n, .nilIface]) ⟨_, Tryd.func70, by kernel_rfl, by kernel_rfl⟩ (fun w G vs hv hwf hgl => ?_) (fun w G => ⟨[_, _], rfl, CRep.i _ _, CRep.o _ rfl, trivial⟩)
  have := Any.strconv_Atoi lays172 ⟨s.toArray⟩ n hl h w
  match vs, hv with
  | [u], ⟨e1, _⟩ =>
    rw [XRep.str e1]
    refine this.mono ?_
    rintro e w' ⟨he, t, hw⟩
    subst hw
    exact ⟨he, Lib.bytesWorld_below _ _ _⟩
theorem all2_str {w : World} {S : Nat → Nat → Prop} : ∀ (bs : List ByteArray), (∀ b ∈ bs, b.data.toList.length ≤ 9223372036854775807) → All2 (CRep w S) (bs.map fun b => C.s b.data.toList) (bs.map Value.string)
  | [], _ => trivial
  | b :: bs, h => ⟨CRep.s b.data.toList (h b (by simp)), all2_str bs fun x hx => h x (by simp [hx])⟩
theorem splitK_mem (sep : List UInt8) : ∀ (k : Nat) (s : List UInt8), ∀ x ∈ Lib.splitK sep 0 k s, x.length ≤ s.length
  | 0, s, x, hx => by simp [Lib.splitK] at hx; subst hx; exact Nat.le_refl _
  | k + 1, s, x, hx => by
    rw [Lib.splitK] at hx
    split at hx
    · simp at hx; subst hx; exact Nat.le_refl _
    · rcases List.mem_cons.1 hx with q | q
      · subst q; simp only [List.length_take]; omega
      · have := splitK_mem sep k _ x q
        simp only [List.length_drop] at this; omega
theorem split_spec (s p : List UInt8) (hs : s.length ≤ 1000000) (hp : 1 ≤ p.length) : Ctr sys 36 [xs s, xs p] [] (xss (Lib.split s p)) none [] := by
  have hsp : (Lib.splitB ⟨p.toArray⟩ 0 (Lib.countB ⟨s.toArray⟩ ⟨p.toArray⟩) ⟨s.toArray⟩).map (·.data.toList) = Lib.split s p := Lib.splitB_data ⟨p.toArray⟩ 0 _ ⟨s.toArray⟩
  have hcnt := Lib.splitB_all ⟨p.toArray⟩ hp 0 (Lib.countB ⟨s.toArray⟩ ⟨p.toArray⟩) ⟨s.toArray⟩ rfl
  have hle : Lib.countB ⟨s.toArray⟩ ⟨p.toArray⟩ ≤ s.length + 1 := Lib.count_le s p
  have key := ctr_alloc (Z := sys) (f := 36) (args := [xs s, xs p]) (cs := (Lib.splitB ⟨p.toArray⟩ 0 (Lib.countB ⟨s.toArray⟩ ⟨p.toArray⟩) ⟨s.toArray⟩).map fun b => C.s b.data.toList) (vals := (Lib.splitB ⟨p.toArray⟩ 0 (Lib.countB ⟨s.toArray⟩ ⟨p.toArray⟩) ⟨s.toArray⟩).map Value.string) (ty := 9)
    ⟨_, Tryd.func36, by kernel_rfl, by kernel_rfl⟩ (by rw [List.length_map]; omega) (fun w S => all2_str _ fun b hb => by
      have h1 : b.data.toList ∈ Lib.split s p := by rw [← hsp]; exact List.mem_map_of_mem (f := (·.data.toList)) hb
      have := splitK_mem p _ s _ h1
      omega) (fun w G vs hv hgl => by
      obtain ⟨m, hm⟩ := (hgl (0, intAt) (by simp [sys])).2.1.cell
      have := Any.strings_Split { laysM146 with } (by kernel_rfl) ⟨s.toArray⟩ ⟨p.toArray⟩ m w (by show s.length < _; omega) hm hp
      match vs, hv with
      | [u, v], ⟨h1, h2, _⟩ =>
        rw [XRep.str h1, XRep.str h2]
        refine this.mono ?_
        rintro e w' ⟨he, hw⟩
        refine ⟨?_, hw⟩
        rw [he, List.length_map, hcnt])
  have e : ((Lib.splitB ⟨p.toArray⟩ 0 (Lib.countB ⟨s.toArray⟩ ⟨p.toArray⟩) ⟨s.toArray⟩).map fun b => C.s b.data.toList).map (fun c => [c]) = strR (Lib.split s p) := by
    rw [← hsp, strR, List.map_map, List.map_map]
    rfl
  rw [e] at key
  exact key
theorem back_map : ∀ (L : List (List UInt8)), (L.map fun s : List UInt8 => (⟨s.toArray⟩ : ByteArray)).map (·.data.toList) = L
  | [] => rfl
  | s :: L => by rw [List.map_cons, List.map_cons, back_map L]
/-- Parts without a byte, put together. -/
def noC (c : UInt8) (l : List UInt8) : Prop := ∀ b ∈ l, b ≠ c
theorem index_at {c : UInt8} {t p r : List UInt8} (h : noC c p) : Lib.index (p ++ ((c :: t) ++ r)) (c :: t) = p.length := by
  refine Lib.index_first (by simp) ?_ (fun j hj => ?_)
  · unfold Lib.occAt
    rw [List.drop_left' rfl]
    simp
  · unfold Lib.occAt
    have hd : (p ++ ((c :: t) ++ r)).drop j = p[j] :: (p.drop (j + 1) ++ ((c :: t) ++ r)) := by
      rw [List.drop_append_of_le_length (by omega), List.drop_eq_getElem_cons hj]; rfl
    rw [hd]
    have : p[j] ≠ c := h _ (List.getElem_mem hj)
    simp [List.isPrefixOf, this.symm]
theorem index_no {c : UInt8} {t p : List UInt8} (h : noC c p) : Lib.index p (c :: t) = -1 := by
  refine Lib.index_none (fun j hj => ?_)
  unfold Lib.occAt
  rcases Nat.lt_or_ge j p.length with hlt | hge
  · rw [List.drop_eq_getElem_cons hlt]
    have : p[j] ≠ c := h _ (List.getElem_mem hlt)
    simp [List.isPrefixOf, this.symm]
  · rw [List.drop_eq_nil_of_le hge]; rfl
theorem split_parts {c : UInt8} {t : List UInt8} : ∀ (ps : List (List UInt8)) (p : List UInt8), noC c p → (∀ q ∈ ps, noC c q) → Lib.split (p ++ Lib.joinTail (c :: t) ps) (c :: t) = p :: ps
  | [], p, hp, _ => by
    have e : p ++ Lib.joinTail (c :: t) [] = p := by simp [Lib.joinTail]
    rw [e, Lib.split, Lib.count_miss (index_no hp)]; rfl
  | q :: ps, p, hp, hq => by
    have e : p ++ Lib.joinTail (c :: t) (q :: ps) = p ++ ((c :: t) ++ (q ++ Lib.joinTail (c :: t) ps)) := by simp [Lib.joinTail]
    have hix := index_at (t := t) (r := q ++ Lib.joinTail (c :: t) ps) hp
    have ih := split_parts (t := t) ps q (hq q (by simp)) (fun x hx => hq x (by simp [hx]))
    have hd : (p ++ ((c :: t) ++ (q ++ Lib.joinTail (c :: t) ps))).drop (p.length + (c :: t).length) = q ++ Lib.joinTail (c :: t) ps := by
      rw [← List.append_assoc, List.drop_left' (by simp)]
    rw [Lib.split] at ih ⊢
    rw [e, Lib.count_hit (by simp) hix, hd, Nat.add_comm, Lib.splitK, hix, if_neg (by simp), Int.toNat_natCast, Nat.add_zero, List.take_left' rfl, hd, ih]
theorem cut_at {c : UInt8} {p r : List UInt8} (h : noC c p) : Lib.cut (p ++ (c :: r)) [c] = (p, r, true) := by
  have hix := index_at (t := []) (r := r) h
  have hix : Lib.index (p ++ (c :: r)) [c] = p.length := hix
  unfold Lib.cut
  rw [hix, if_pos (by omega), Int.toNat_natCast, List.take_left' rfl]
  have : (p ++ c :: r).drop (p.length + [c].length) = r := by
    rw [show p ++ c :: r = (p ++ [c]) ++ r by simp, List.drop_left' (by simp)]
  rw [this]
theorem join_spec (L : List (List UInt8)) (hL : L.length ≤ 1000000) (p : List UInt8) (hj : (Lib.join L p).length ≤ 140737488355328) : Ctr sys 32 [xss L, xs p] [] (xs (Lib.join L p)) none [] := by
  refine ctr_below (v := .string ⟨(Lib.join L p).toArray⟩) ⟨_, Tryd.func32, by kernel_rfl, by kernel_rfl⟩ (fun w G vs hv hwf hgl => ?_) (fun w G => CRep.s _ (by omega))
  match vs, hv with
  | [u, v], ⟨h1, h2, _⟩ =>
    rw [XRep.str h2]
    have h1 : CRep w G.S (.sl 1 (strR L)) u := h1
    have hnone : ∀ (a : Option Addr) (c : Nat), L = [] → Calls Tryd.prog 32 #[.slice a 0 c, .string ⟨p.toArray⟩] w fun e w' => e = .returned (.string ⟨(Lib.join L p).toArray⟩) ∧ Below w.heap.size w w' := by
      intro a c hnil
      subst hnil
      refine (Any.strings_Join_none lays156 builderExtra156 a c ⟨p.toArray⟩ w).mono ?_
      rintro e w' ⟨he, hw⟩
      subst hw
      exact ⟨he, Below.refl _ _⟩
    generalize hes : strR L = es at h1
    cases h1 with
    | emp sz a => exact hnone a 0 (by simpa [strR] using hes)
    | sl sz es blk off len cap vals hl hc hm hsz hcell hrep =>
      by_cases hnil : L = []
      · have : len = 0 := by rw [← hl, ← hes, hnil]; rfl
        subst this
        exact hnone _ cap hnil
      · have hlen : len = L.length := by rw [← hl, ← hes, strR_len]
        subst hlen
        have hpos : 0 < L.length := List.length_pos_iff.2 hnil
        have hx : (L.map fun s : List UInt8 => (⟨s.toArray⟩ : ByteArray)).map (·.data.toList) = L := back_map L
        have key := Any.strings_Join lays156 builderExtra156 blk off cap (L.map fun s : List UInt8 => (⟨s.toArray⟩ : ByteArray)) ⟨p.toArray⟩ w (fun j x hj => by
            rw [List.getElem?_map, Option.map_eq_some_iff] at hj
            obtain ⟨s, hs, rfl⟩ := hj
            have hjl := (List.getElem?_eq_some_iff.1 hs).1
            obtain ⟨_, h5⟩ := hcell j 0 (by omega) (by omega)
            have hrow : es[j]? = some [.s s] := by rw [← hes, strR, List.getElem?_map, hs]; rfl
            have h6 := hrep j _ 0 (.s s) hrow rfl
            have h7 : vals j 0 = .string ⟨s.toArray⟩ := XRep.str (G := G) (w := w) h6
            rw [show off + j = off + j * 1 + 0 by omega, h5, h7]) (by
            obtain ⟨_, h5⟩ := hcell 0 0 (by omega) (by omega)
            exact World.block_lt_of_cell? (a := ⟨blk, off + 0 * 1 + 0, none⟩) w h5) (by rw [List.length_map]; omega) (by rw [List.length_map]; omega) (by rw [hx]; exact hj)
        rw [hx, List.length_map] at key
        exact key
end Go.Proofs.YthfoclblmdnckaaDoor
/- Contracts: small tables; tables held against themselves. -/
set_option linter.unusedVariables false
set_option linter.unusedSimpArgs false
namespace Go.Proofs.YthfoclblmdnckaaDoor
open Go Go.Abs
def fewF (l : List Fd) : Bool := l.all fun x => decide (x.bytes.length ≤ 40)
def fewM (f : Fm) : Bool := decide (f.name.length ≤ 100) && decide (f.fields.length ≤ 12) && fewF f.fields
def fewT (t : List Fm) : Bool := decide (t.length ≤ 12) && t.all fewM
theorem few_spec (t : List Fm) : Ctr sys 15 [xtab t] [] (xb (fewT t)) none [] := by
  have hrl := Fm.rows_len t
  refine spec_intro Tryd.func15 rfl rfl rfl rfl rfl rfl ?_
  refine awp_seq (awp_region ?_)
  refine al_pure rfl rfl rfl (pure_assign rfl gU) ?_
  refine al_nil ?_
  refine awp_seq ?_
  refine awp_seq (awp_region ?_)
  refine al_pure rfl rfl rfl (pure_move rfl gU) ?_
  refine al_lenSl rfl rfl rfl rfl rfl gU rfl rfl ?_ (fun hh => by simp at hh); intro hlen
  refine al_pure rfl rfl rfl (pure_cmp rfl rfl gU gU rfl) ?_
  refine al_nil ?_
  refine awp_cond rfl (fun hc => ?_) (fun hc => ?_)
  · try simp only [nn, Fm.rows_len, Fd.rows_len] at hc
    refine awp_seq (awp_region ?_)
    refine al_pure rfl rfl rfl (pure_assign rfl gU) ?_
    refine al_nil ?_
    refine awp_ret ?_
    repeat (first | refine tR ?_ | refine bR ?_)
    refine ret_ok rfl ?_ trivial
    exact xb_eq (by rw [fewT, decide_eq_false (by omega)]; rfl)
  · try simp only [nn, Fm.rows_len, Fd.rows_len] at hc
    rw [fewT, decide_eq_true (by omega), Bool.true_and]
    refine awp_skip ?_
    refine awp_seq ?_
    refine awp_seq (awp_region ?_)
    refine al_pure rfl rfl rfl (pure_assign rfl gU) ?_
    refine al_nil ?_
    refine awp_sub (s := { t := [(0, _, _), (3, _, _)], bx := [], ow := [] }) (sub_mk (⟨sx rfl, ⟨sx rfl, trivial⟩⟩) trivial trivial) ?_
    refine awp_block ?_
    refine awp_for (ι := Nat) { t := [(0, _, _)], bx := [], ow := [] } (fun k => [(3, true, xi (k : Int))]) (fun k => []) (fun k => k ≤ t.length ∧ (t.drop k).all fewM = t.all fewM) (fun k => t.length - k) (0) (by simp) (sub_mk (⟨sx rfl, ⟨sx rfl, trivial⟩⟩) trivial trivial) ?_
    intro k hok
    dsimp only [List.cons_append, List.nil_append]
    obtain ⟨hk, hi⟩ := hok
    refine awp_seq ?_
    refine awp_seq (awp_region ?_)
    refine al_pure rfl rfl rfl (pure_move rfl gU) ?_
    refine al_pure rfl rfl rfl (pure_move rfl gU) ?_
    refine al_lenSl rfl rfl rfl rfl rfl gU rfl rfl ?_ (fun hh => by simp at hh); intro hlen
    refine al_pure rfl rfl rfl (pure_cmp rfl rfl gU gU rfl) ?_
    refine al_nil ?_
    refine awp_cond rfl (fun hc2 => ?_) (fun hc2 => ?_)
    · try simp only [nn, Fm.rows_len, Fd.rows_len] at hc2
      rw [dropD (d := default) (by omega), List.all_cons, fewM, fewF] at hi
      have hrf := Fd.rows_len (t.getD k default).fields
      refine awp_skip ?_
      refine awp_seq ?_
      refine awp_block ?_
      refine awp_seq ?_
      refine awp_seq (awp_region ?_)
      refine al_pure rfl rfl rfl (pure_move rfl gU) ?_
      refine al_pure rfl rfl rfl (pure_move rfl gU) ?_
      refine al_pure rfl rfl rfl (pure_indexAddr rfl rfl gU gU rfl rfl rfl (fun hh => Fm.rows_at (by first | omega | (simp at hh; omega)))) ?_
      refine al_pure rfl rfl rfl (pure_fieldRo rfl gU rfl rfl) ?_
      refine al_pure rfl rfl rfl (pure_loadRo rfl gU rfl rfl rfl) ?_
      refine al_lenS rfl rfl rfl rfl rfl gU (Tryd.underlying9) ?_ (fun hh => by simp at hh); intro hlen
      refine al_pure rfl rfl rfl (pure_cmp rfl rfl gU gU rfl) ?_
      refine al_pure rfl rfl rfl (pure_move rfl gU) ?_
      refine al_sub (s := { t := [(0, _, _), (3, _, _), (21, _, _)], bx := [], ow := [] }) (sub_mk (⟨sx rfl, ⟨sx rfl, ⟨sx rfl, trivial⟩⟩⟩) trivial trivial) ?_
      refine al_pure rfl rfl rfl (pure_move rfl gU) ?_
      refine al_pure rfl rfl rfl (pure_move rfl gU) ?_
      refine al_pure rfl rfl rfl (pure_indexAddr rfl rfl (fun hh => hh) (fun hh => hh) rfl rfl rfl (fun hh => Fm.rows_at (by first | omega | (simp at hh; omega)))) ?_
      refine al_pure rfl rfl rfl (pure_fieldRo rfl (fun hh => hh) rfl rfl) ?_
      refine al_pure rfl rfl rfl (pure_loadRo rfl (fun hh => hh) rfl rfl rfl) ?_
      refine al_pure rfl rfl rfl (pure_lenSl rfl (fun hh => hh) rfl rfl) ?_
      refine al_pure rfl rfl rfl (pure_cmp rfl rfl (fun hh => hh) gU rfl) ?_
      refine al_pure rfl rfl rfl (pure_or rfl rfl gU (fun _ hi => gP rfl hi)) ?_
      refine al_nil ?_
      refine awp_sub (s := { t := [(0, _, _), (3, _, _), (29, _, _)], bx := [], ow := [] }) (sub_mk (⟨sx rfl, ⟨sx rfl, ⟨sx rfl, trivial⟩⟩⟩) trivial trivial) ?_
      refine awp_cond rfl (fun hc3 => ?_) (fun hc3 => ?_)
      · try simp only [nn, Fm.rows_len, Fd.rows_len] at hc3
        refine awp_seq (awp_region ?_)
        refine al_pure rfl rfl rfl (pure_assign rfl gU) ?_
        refine al_nil ?_
        refine awp_ret ?_
        repeat (first | refine tR ?_ | refine bR ?_)
        refine ret_ok rfl ?_ trivial
        exact xb_eq (by grind)
      · try simp only [nn, Fm.rows_len, Fd.rows_len] at hc3
        refine awp_skip ?_
        refine awp_seq (awp_region ?_)
        refine al_pure rfl rfl rfl (pure_assign rfl gU) ?_
        refine al_nil ?_
        refine awp_block ?_
        refine awp_for (ι := Nat) { t := [(0, _, _), (3, _, _)], bx := [], ow := [] } (fun j => [(4, true, xi (j : Int))]) (fun j => []) (fun j => j ≤ (t.getD k default).fields.length ∧ (((t.getD k default).fields.drop j).all fun x => decide (x.bytes.length ≤ 40)) = (t.getD k default).fields.all fun x => decide (x.bytes.length ≤ 40)) (fun j => (t.getD k default).fields.length - j) (0) (by simp) (sub_mk (⟨sx rfl, ⟨sx rfl, ⟨sx rfl, trivial⟩⟩⟩) trivial trivial) ?_
        intro j hok2
        dsimp only [List.cons_append, List.nil_append]
        obtain ⟨hj, hi2⟩ := hok2
        refine awp_seq ?_
        refine awp_seq (awp_region ?_)
        refine al_pure rfl rfl rfl (pure_move rfl gU) ?_
        refine al_pure rfl rfl rfl (pure_move rfl gU) ?_
        refine al_pure rfl rfl rfl (pure_move rfl gU) ?_
        refine al_pure rfl rfl rfl (pure_indexAddr rfl rfl gU gU rfl rfl rfl (fun hh => Fm.rows_at (by first | omega | (simp at hh; omega)))) ?_
        refine al_pure rfl rfl rfl (pure_fieldRo rfl gU rfl rfl) ?_
        refine al_pure rfl rfl rfl (pure_loadRo rfl gU rfl rfl rfl) ?_
        refine al_lenSl rfl rfl rfl rfl rfl gU rfl rfl ?_ (fun hh => by simp at hh); intro hlen
        refine al_pure rfl rfl rfl (pure_cmp rfl rfl gU gU rfl) ?_
        refine al_nil ?_
        refine awp_sub (s := { t := [(0, _, _), (3, _, _), (4, _, _), (37, _, _)], bx := [], ow := [] }) (sub_mk (⟨sx rfl, ⟨sx rfl, ⟨sx rfl, ⟨sx rfl, trivial⟩⟩⟩⟩) trivial trivial) ?_
        refine awp_cond rfl (fun hc4 => ?_) (fun hc4 => ?_)
        · try simp only [nn, Fm.rows_len, Fd.rows_len] at hc4
          rw [dropD (d := default) (by omega), List.all_cons] at hi2
          refine awp_skip ?_
          refine awp_seq ?_
          refine awp_block ?_
          refine awp_seq (awp_region ?_)
          refine al_pure rfl rfl rfl (pure_move rfl gU) ?_
          refine al_pure rfl rfl rfl (pure_move rfl gU) ?_
          refine al_pure rfl rfl rfl (pure_indexAddr rfl rfl gU gU rfl rfl rfl (fun hh => Fm.rows_at (by first | omega | (simp at hh; omega)))) ?_
          refine al_pure rfl rfl rfl (pure_fieldRo rfl gU rfl rfl) ?_
          refine al_pure rfl rfl rfl (pure_loadRo rfl gU rfl rfl rfl) ?_
          refine al_pure rfl rfl rfl (pure_move rfl gU) ?_
          refine al_pure rfl rfl rfl (pure_indexAddr rfl rfl gU gU rfl rfl rfl (fun hh => Fd.rows_at (by first | omega | (simp at hh; omega)))) ?_
          refine al_pure rfl rfl rfl (pure_fieldRo rfl gU rfl rfl) ?_
          refine al_pure rfl rfl rfl (pure_loadRo rfl gU rfl rfl rfl) ?_
          refine al_lenS rfl rfl rfl rfl rfl gU (Tryd.underlying9) ?_ (fun hh => by simp at hh); intro hlen
          refine al_pure rfl rfl rfl (pure_cmp rfl rfl gU gU rfl) ?_
          refine al_nil ?_
          refine awp_sub (s := { t := [(0, _, _), (3, _, _), (4, _, _), (50, _, _)], bx := [], ow := [] }) (sub_mk (⟨sx rfl, ⟨sx rfl, ⟨sx rfl, ⟨sx rfl, trivial⟩⟩⟩⟩) trivial trivial) ?_
          refine awp_cond rfl (fun hc5 => ?_) (fun hc5 => ?_)
          · try simp only [nn, Fm.rows_len, Fd.rows_len] at hc5
            refine awp_seq (awp_region ?_)
            refine al_pure rfl rfl rfl (pure_assign rfl gU) ?_
            refine al_nil ?_
            refine awp_ret ?_
            repeat (first | refine tR ?_ | refine bR ?_)
            refine ret_ok rfl ?_ trivial
            exact xb_eq (by grind)
          · try simp only [nn, Fm.rows_len, Fd.rows_len] at hc5
            refine awp_skip ?_
            refine awp_region ?_
            refine al_pure rfl rfl rfl (pure_move rfl gU) ?_
            refine al_pure rfl rfl rfl (pure_arith rfl rfl gU gU rfl (IntWalk.i64_in _ (by omega))) ?_
            refine al_pure rfl rfl rfl (pure_assign rfl gU) ?_
            refine al_nil ?_
            refine ⟨j + 1, ?_, ?_, sub_mk (⟨⟨_, rfl, ?_⟩, ⟨sx rfl, ⟨sx rfl, trivial⟩⟩⟩) trivial trivial⟩
            all_goals (grind)
        · try simp only [nn, Fm.rows_len, Fd.rows_len] at hc4
          have hjj : (t.getD k default).fields.drop j = [] := List.drop_eq_nil_of_le (by omega)
          rw [hjj] at hi2
          refine awp_exit ?_
          repeat (first | refine thenS_exit ?_ | refine blockS_hit ?_ | refine blockS_miss rfl ?_)
          refine awp_region ?_
          refine al_pure rfl rfl rfl (pure_move rfl gU) ?_
          refine al_pure rfl rfl rfl (pure_arith rfl rfl gU gU rfl (IntWalk.i64_in _ (by omega))) ?_
          refine al_pure rfl rfl rfl (pure_assign rfl gU) ?_
          refine al_nil ?_
          refine ⟨k + 1, ?_, ?_, sub_mk (⟨⟨_, rfl, ?_⟩, ⟨sx rfl, trivial⟩⟩) trivial trivial⟩
          all_goals (grind)
    · try simp only [nn, Fm.rows_len, Fd.rows_len] at hc2
      have hkk : t.drop k = [] := List.drop_eq_nil_of_le (by omega)
      rw [hkk] at hi
      refine awp_exit ?_
      repeat (first | refine thenS_exit ?_ | refine blockS_hit ?_ | refine blockS_miss rfl ?_)
      refine awp_seq (awp_region ?_)
      refine al_pure rfl rfl rfl (pure_assign rfl gU) ?_
      refine al_nil ?_
      refine awp_ret ?_
      repeat (first | refine tR ?_ | refine bR ?_)
      refine ret_ok rfl ?_ trivial
      exact xb_eq (by simpa using hi)
theorem same_spec (t : List Fm) : Ctr sys 14 [xtab t, xtab t] [] (xb true) none [] := by
  have hrl := Fm.rows_len t
  refine spec_intro Tryd.func14 rfl rfl rfl rfl rfl rfl ?_
  refine awp_seq (awp_region ?_)
  refine al_pure rfl rfl rfl (pure_assign rfl gU) ?_
  refine al_nil ?_
  refine awp_seq ?_
  refine awp_seq (awp_region ?_)
  refine al_pure rfl rfl rfl (pure_move rfl gU) ?_
  refine al_lenSl rfl rfl rfl rfl rfl gU rfl rfl ?_ (fun hh => by simp at hh); intro hlen
  refine al_pure rfl rfl rfl (pure_move rfl gU) ?_
  refine al_lenSl rfl rfl rfl rfl rfl gU rfl rfl ?_ (fun hh => by simp at hh); intro hlen
  refine al_pure rfl rfl rfl (pure_cmp rfl rfl gU gU rfl) ?_
  refine al_nil ?_
  refine awp_sub (s := { t := [(0, _, _), (1, _, _), (11, _, _)], bx := [], ow := [] }) (sub_mk (⟨sx rfl, ⟨sx rfl, ⟨sx rfl, trivial⟩⟩⟩) trivial trivial) ?_
  refine awp_cond rfl (fun hc => ?_) (fun hc => ?_)
  · try simp only [nn, Fm.rows_len, Fd.rows_len] at hc
    exact absurd trivial hc
  · try simp only [nn, Fm.rows_len, Fd.rows_len] at hc
    refine awp_skip ?_
    refine awp_seq ?_
    refine awp_seq (awp_region ?_)
    refine al_pure rfl rfl rfl (pure_assign rfl gU) ?_
    refine al_nil ?_
    refine awp_block ?_
    refine awp_for (ι := Nat) { t := [(0, _, _), (1, _, _)], bx := [], ow := [] } (fun k => [(5, true, xi (k : Int))]) (fun k => []) (fun k => k ≤ t.length) (fun k => t.length - k) (0) (by simp) (sub_mk (⟨sx rfl, ⟨sx rfl, ⟨sx rfl, trivial⟩⟩⟩) trivial trivial) ?_
    intro k hok
    dsimp only [List.cons_append, List.nil_append]
    refine awp_seq ?_
    refine awp_seq (awp_region ?_)
    refine al_pure rfl rfl rfl (pure_move rfl gU) ?_
    refine al_pure rfl rfl rfl (pure_move rfl gU) ?_
    refine al_lenSl rfl rfl rfl rfl rfl gU rfl rfl ?_ (fun hh => by simp at hh); intro hlen
    refine al_pure rfl rfl rfl (pure_cmp rfl rfl gU gU rfl) ?_
    refine al_nil ?_
    refine awp_cond rfl (fun hc2 => ?_) (fun hc2 => ?_)
    · try simp only [nn, Fm.rows_len, Fd.rows_len] at hc2
      have hrf := Fd.rows_len (t.getD k default).fields
      refine awp_skip ?_
      refine awp_seq ?_
      refine awp_block ?_
      refine awp_seq ?_
      refine awp_seq ?_
      refine awp_drawn' (by kernel_rfl) ?_
      refine dr_pure rfl rfl rfl rfl (pure_move rfl gU) ?_
      refine dr_pure rfl rfl rfl rfl (pure_move rfl gU) ?_
      refine dr_pure rfl rfl rfl rfl (pure_indexAddr rfl rfl gU gU rfl rfl rfl (fun hh => Fm.rows_at (by first | omega | (simp at hh; omega)))) ?_
      refine dr_pure rfl rfl rfl rfl (pure_fieldRo rfl gU rfl rfl) ?_
      refine dr_pure rfl rfl rfl rfl (pure_loadRo rfl gU rfl rfl rfl) ?_
      refine dr_pure rfl rfl rfl rfl (pure_move rfl gU) ?_
      refine dr_pure rfl rfl rfl rfl (pure_move rfl gU) ?_
      refine dr_pure rfl rfl rfl rfl (pure_indexAddr rfl rfl gU gU rfl rfl rfl (fun hh => Fm.rows_at (by first | omega | (simp at hh; omega)))) ?_
      refine dr_pure rfl rfl rfl rfl (pure_fieldRo rfl gU rfl rfl) ?_
      refine dr_pure rfl rfl rfl rfl (pure_loadRo rfl gU rfl rfl rfl) ?_
      refine dr_pure rfl rfl rfl rfl (pure_cmpS rfl rfl gU gU rfl) ?_
      refine dr_pure rfl rfl rfl rfl (pure_move rfl gU) ?_
      refine dr_pure rfl rfl rfl rfl (pure_move rfl gU) ?_
      refine dr_pure rfl rfl rfl rfl (pure_move rfl gU) ?_
      refine dr_pure rfl rfl rfl rfl (pure_indexAddr rfl rfl (fun hh => hh) (fun hh => hh) rfl rfl rfl (fun hh => Fm.rows_at (by first | omega | (simp at hh; omega)))) ?_
      refine dr_pure rfl rfl rfl rfl (pure_fieldRo rfl (fun hh => hh) rfl rfl) ?_
      refine dr_pure rfl rfl rfl rfl (pure_loadRo rfl (fun hh => hh) rfl rfl rfl) ?_
      refine dr_pure rfl rfl rfl rfl (pure_lenSl rfl (fun hh => hh) rfl rfl) ?_
      refine dr_pure rfl rfl rfl rfl (pure_move rfl gU) ?_
      refine dr_pure rfl rfl rfl rfl (pure_move rfl gU) ?_
      refine dr_pure rfl rfl rfl rfl (pure_indexAddr rfl rfl (fun hh => hh) (fun hh => hh) rfl rfl rfl (fun hh => Fm.rows_at (by first | omega | (simp at hh; omega)))) ?_
      refine dr_pure rfl rfl rfl rfl (pure_fieldRo rfl (fun hh => hh) rfl rfl) ?_
      refine dr_pure rfl rfl rfl rfl (pure_loadRo rfl (fun hh => hh) rfl rfl rfl) ?_
      refine dr_pure rfl rfl rfl rfl (pure_lenSl rfl (fun hh => hh) rfl rfl) ?_
      refine dr_pure rfl rfl rfl rfl (pure_cmp rfl rfl (fun hh => hh) (fun hh => hh) rfl) ?_
      refine dr_pure rfl rfl rfl rfl (pure_or rfl rfl gU (fun _ hi => gP rfl hi)) ?_
      refine dr_nil (by kernel_rfl) ?_
      refine awp_sub (s := { t := [(0, _, _), (1, _, _), (5, _, _), (43, _, _)], bx := [], ow := [] }) (sub_mk (⟨sx rfl, ⟨sx rfl, ⟨sx rfl, ⟨sx rfl, trivial⟩⟩⟩⟩) trivial trivial) ?_
      refine awp_cond rfl (fun hc3 => ?_) (fun hc3 => ?_)
      · try simp only [nn, Fm.rows_len, Fd.rows_len] at hc3
        simp at hc3
      · try simp only [nn, Fm.rows_len, Fd.rows_len] at hc3
        refine awp_skip ?_
        refine awp_seq (awp_region ?_)
        refine al_pure rfl rfl rfl (pure_assign rfl gU) ?_
        refine al_nil ?_
        refine awp_block ?_
        refine awp_for (ι := Nat) { t := [(0, _, _), (1, _, _), (5, _, _)], bx := [], ow := [] } (fun j => [(6, true, xi (j : Int))]) (fun j => []) (fun j => j ≤ (t.getD k default).fields.length) (fun j => (t.getD k default).fields.length - j) (0) (by simp) (sub_mk (⟨sx rfl, ⟨sx rfl, ⟨sx rfl, ⟨sx rfl, trivial⟩⟩⟩⟩) trivial trivial) ?_
        intro j hok2
        dsimp only [List.cons_append, List.nil_append]
        refine awp_seq ?_
        refine awp_seq (awp_region ?_)
        refine al_pure rfl rfl rfl (pure_move rfl gU) ?_
        refine al_pure rfl rfl rfl (pure_move rfl gU) ?_
        refine al_pure rfl rfl rfl (pure_move rfl gU) ?_
        refine al_pure rfl rfl rfl (pure_indexAddr rfl rfl gU gU rfl rfl rfl (fun hh => Fm.rows_at (by first | omega | (simp at hh; omega)))) ?_
        refine al_pure rfl rfl rfl (pure_fieldRo rfl gU rfl rfl) ?_
        refine al_pure rfl rfl rfl (pure_loadRo rfl gU rfl rfl rfl) ?_
        refine al_lenSl rfl rfl rfl rfl rfl gU rfl rfl ?_ (fun hh => by simp at hh); intro hlen
        refine al_pure rfl rfl rfl (pure_cmp rfl rfl gU gU rfl) ?_
        refine al_nil ?_
        refine awp_sub (s := { t := [(0, _, _), (1, _, _), (5, _, _), (6, _, _), (51, _, _)], bx := [], ow := [] }) (sub_mk (⟨sx rfl, ⟨sx rfl, ⟨sx rfl, ⟨sx rfl, ⟨sx rfl, trivial⟩⟩⟩⟩⟩) trivial trivial) ?_
        refine awp_cond rfl (fun hc4 => ?_) (fun hc4 => ?_)
        · try simp only [nn, Fm.rows_len, Fd.rows_len] at hc4
          refine awp_skip ?_
          refine awp_seq ?_
          refine awp_block ?_
          refine awp_seq ?_
          refine awp_drawn' (by kernel_rfl) ?_
          refine dr_pure rfl rfl rfl rfl (pure_move rfl gU) ?_
          refine dr_pure rfl rfl rfl rfl (pure_move rfl gU) ?_
          refine dr_pure rfl rfl rfl rfl (pure_indexAddr rfl rfl gU gU rfl rfl rfl (fun hh => Fm.rows_at (by first | omega | (simp at hh; omega)))) ?_
          refine dr_pure rfl rfl rfl rfl (pure_fieldRo rfl gU rfl rfl) ?_
          refine dr_pure rfl rfl rfl rfl (pure_loadRo rfl gU rfl rfl rfl) ?_
          refine dr_pure rfl rfl rfl rfl (pure_move rfl gU) ?_
          refine dr_pure rfl rfl rfl rfl (pure_indexAddr rfl rfl gU gU rfl rfl rfl (fun hh => Fd.rows_at (by first | omega | (simp at hh; omega)))) ?_
          refine dr_pure rfl rfl rfl rfl (pure_loadRoRow rfl gU rfl rfl rfl rfl) ?_
          refine dr_pure rfl rfl rfl rfl (pure_move rfl gU) ?_
          refine dr_pure rfl rfl rfl rfl (pure_move rfl gU) ?_
          refine dr_pure rfl rfl rfl rfl (pure_indexAddr rfl rfl gU gU rfl rfl rfl (fun hh => Fm.rows_at (by first | omega | (simp at hh; omega)))) ?_
          refine dr_pure rfl rfl rfl rfl (pure_fieldRo rfl gU rfl rfl) ?_
          refine dr_pure rfl rfl rfl rfl (pure_loadRo rfl gU rfl rfl rfl) ?_
          refine dr_pure rfl rfl rfl rfl (pure_move rfl gU) ?_
          refine dr_pure rfl rfl rfl rfl (pure_indexAddr rfl rfl gU gU rfl rfl rfl (fun hh => Fd.rows_at (by first | omega | (simp at hh; omega)))) ?_
          refine dr_pure rfl rfl rfl rfl (pure_loadRoRow rfl gU rfl rfl rfl rfl) ?_
          refine dr_pure rfl rfl rfl rfl (pure_eqStruct (ks := [1, 2, 1, 1, 1]) (.inr ⟨rfl, rfl⟩) rfl rfl gU gU Tryd.underlying53 (by kernel_rfl) (by kernel_rfl) (by kernel_rfl) rfl) ?_
          refine dr_nil (by kernel_rfl) ?_
          refine awp_sub (s := { t := [(0, _, _), (1, _, _), (5, _, _), (6, _, _), (70, _, _)], bx := [], ow := [] }) (sub_mk (⟨sx rfl, ⟨sx rfl, ⟨sx rfl, ⟨sx rfl, ⟨sx rfl, trivial⟩⟩⟩⟩⟩) trivial trivial) ?_
          refine awp_cond rfl (fun hc5 => ?_) (fun hc5 => ?_)
          · try simp only [nn, Fm.rows_len, Fd.rows_len] at hc5
            simp at hc5
          · try simp only [nn, Fm.rows_len, Fd.rows_len] at hc5
            refine awp_skip ?_
            refine awp_region ?_
            refine al_pure rfl rfl rfl (pure_move rfl gU) ?_
            refine al_pure rfl rfl rfl (pure_arith rfl rfl gU gU rfl (IntWalk.i64_in _ (by omega))) ?_
            refine al_pure rfl rfl rfl (pure_assign rfl gU) ?_
            refine al_nil ?_
            refine ⟨j + 1, ?_, ?_, sub_mk (⟨⟨_, rfl, ?_⟩, ⟨sx rfl, ⟨sx rfl, ⟨sx rfl, trivial⟩⟩⟩⟩) trivial trivial⟩
            all_goals (grind)
        · try simp only [nn, Fm.rows_len, Fd.rows_len] at hc4
          refine awp_exit ?_
          repeat (first | refine thenS_exit ?_ | refine blockS_hit ?_ | refine blockS_miss rfl ?_)
          refine awp_region ?_
          refine al_pure rfl rfl rfl (pure_move rfl gU) ?_
          refine al_pure rfl rfl rfl (pure_arith rfl rfl gU gU rfl (IntWalk.i64_in _ (by omega))) ?_
          refine al_pure rfl rfl rfl (pure_assign rfl gU) ?_
          refine al_nil ?_
          refine ⟨k + 1, ?_, ?_, sub_mk (⟨⟨_, rfl, ?_⟩, ⟨sx rfl, ⟨sx rfl, trivial⟩⟩⟩) trivial trivial⟩
          all_goals (grind)
    · try simp only [nn, Fm.rows_len, Fd.rows_len] at hc2
      refine awp_exit ?_
      repeat (first | refine thenS_exit ?_ | refine blockS_hit ?_ | refine blockS_miss rfl ?_)
      refine awp_seq (awp_region ?_)
      refine al_pure rfl rfl rfl (pure_assign rfl gU) ?_
      refine al_nil ?_
      refine awp_ret ?_
      repeat (first | refine tR ?_ | refine bR ?_)
      refine ret_ok rfl ?_ trivial
      rfl
end Go.Proofs.YthfoclblmdnckaaDoor
/- Contracts: tagged tables, on both sides. -/
set_option linter.unusedVariables false
set_option linter.unusedSimpArgs false
namespace Go.Proofs.YthfoclblmdnckaaDoor
open Go Go.Abs
abbrev f0 (t : List Fm) (k : Nat) : Fd := (t.getD k default).fields.getD 0 default
def okR (t : List Fm) (i : Nat) : Prop := (f0 t i).kind = 1 ∧ ∀ k, k < i → (f0 t i).bytes.length = (f0 t k).bytes.length ∧ (f0 t i).bytes ≠ (f0 t k).bytes
def tags (t : List Fm) (i : Nat) : List (List UInt8) := (List.range i).map fun k => (f0 t k).bytes
def okT (t : List Fm) (i : Nat) : Prop := (f0 t i).kind = 1 ∧ (f0 t i).bytes.length = (f0 t 0).bytes.length ∧ (f0 t i).bytes ∉ tags t i
theorem tags_succ (t : List Fm) (i : Nat) : tags t (i + 1) = tags t i ++ [(f0 t i).bytes] := by simp [tags, List.range_succ]
theorem tags_mem {t : List Fm} {i : Nat} {x : List UInt8} : x ∈ tags t i ↔ ∃ k, k < i ∧ (f0 t k).bytes = x := by simp [tags]
theorem okT_of {t : List Fm} {i : Nat} (h : okR t i) : okT t i := by
  refine ⟨h.1, ?_, fun hm => ?_⟩
  · rcases Nat.eq_zero_or_pos i with e | e
    · rw [e]
    · exact (h.2 0 e).1
  · obtain ⟨k, hk, e⟩ := tags_mem.1 hm
    exact (h.2 k hk).2 e.symm
theorem okR_of {t : List Fm} {n : Nat} (h : ∀ i, i < n → okT t i) (i : Nat) (hi : i < n) : okR t i := by
  refine ⟨(h i hi).1, fun k hk => ⟨?_, fun e => (h i hi).2.2 (tags_mem.2 ⟨k, hk, e.symm⟩)⟩⟩
  rw [(h i hi).2.1, (h k (by omega)).2.1]
def TaggedP (t : List Fm) : Prop := validE t = 0 ∧ ∀ i, i < t.length → okR t i
noncomputable def taggedB (t : List Fm) : Bool := @decide (TaggedP t) (Classical.propDecidable _)
theorem tagged_true {t : List Fm} (h : TaggedP t) : taggedB t = true := by unfold taggedB; exact @decide_eq_true _ (Classical.propDecidable _) h
theorem tagged_false {t : List Fm} (h : ¬ TaggedP t) : taggedB t = false := by unfold taggedB; exact @decide_eq_false _ (Classical.propDecidable _) h
theorem tagged_iff {t : List Fm} : taggedB t = true ↔ TaggedP t := by
  constructor
  · intro h
    by_cases e : TaggedP t
    · exact e
    · rw [tagged_false e] at h; cases h
  · exact tagged_true
theorem mset_rep {w : World} {S : Nat → Nat → Prop} (l : List (List UInt8)) (k : List UInt8) : CRep w S (.b (decide (k ∈ l))) (mval (mset l) k (.bool false)) := by
  have : mval (mset l) k (.bool false) = .bool (decide (k ∈ l)) := by
    rw [mval, mset_get]
    by_cases h : k ∈ l <;> simp [h]
  rw [this]
  exact CRep.b _
theorem rTagged_spec (t : List Fm) : Ctr sys 20 [xtab t] [] (xb (taggedB t)) none [] := by
  have hrl := Fm.rows_len t
  refine spec_intro Tryd.func20 rfl rfl rfl rfl rfl rfl ?_
  refine awp_seq (awp_region ?_)
  refine al_pure rfl rfl rfl (pure_assign rfl gU) ?_
  refine al_nil ?_
  refine awp_seq ?_
  refine awp_seq (awp_region ?_)
  refine al_pure rfl rfl rfl (pure_move rfl gU) ?_
  refine al_call rfl rfl rfl rfl rfl rfl gU gU (rValid_spec _) rfl ?_
  refine al_pure rfl rfl rfl (pure_cmp rfl rfl gU gU rfl) ?_
  refine al_nil ?_
  refine awp_cond rfl (fun hc => ?_) (fun hc => ?_)
  · try simp only [nn, Fm.rows_len, Fd.rows_len] at hc
    refine awp_seq (awp_region ?_)
    refine al_pure rfl rfl rfl (pure_assign rfl gU) ?_
    refine al_nil ?_
    refine awp_ret ?_
    repeat (first | refine tR ?_ | refine bR ?_)
    refine ret_ok rfl ?_ trivial
    exact xb_eq (tagged_false fun h => hc h.1).symm
  · try simp only [nn, Fm.rows_len, Fd.rows_len] at hc
    have hv := Tab.of hc
    refine awp_skip ?_
    refine awp_seq ?_
    refine awp_seq (awp_region ?_)
    refine al_pure rfl rfl rfl (pure_assign rfl gU) ?_
    refine al_nil ?_
    refine awp_sub (s := { t := [(0, _, _), (3, _, _)], bx := [], ow := [] }) (sub_mk (⟨sx rfl, ⟨sx rfl, trivial⟩⟩) trivial trivial) ?_
    refine awp_block ?_
    refine awp_for (ι := Nat) { t := [(0, _, _)], bx := [], ow := [] } (fun i => [(3, true, xi (i : Int))]) (fun i => []) (fun i => i ≤ t.length ∧ ∀ j, j < i → okR t j) (fun i => t.length - i) (0) (⟨by omega, fun j hj => by omega⟩) (sub_mk (⟨sx rfl, ⟨sx rfl, trivial⟩⟩) trivial trivial) ?_
    intro i hok
    dsimp only [List.cons_append, List.nil_append]
    obtain ⟨hi, hinv⟩ := hok
    refine awp_seq ?_
    refine awp_seq (awp_region ?_)
    refine al_pure rfl rfl rfl (pure_move rfl gU) ?_
    refine al_pure rfl rfl rfl (pure_move rfl gU) ?_
    refine al_lenSl rfl rfl rfl rfl rfl gU rfl rfl ?_ (fun hh => by simp at hh); intro hlen
    refine al_pure rfl rfl rfl (pure_cmp rfl rfl gU gU rfl) ?_
    refine al_nil ?_
    refine awp_cond rfl (fun hc2 => ?_) (fun hc2 => ?_)
    · try simp only [nn, Fm.rows_len, Fd.rows_len] at hc2
      have hnf := hv.nf i (by omega)
      have hrf := Fd.rows_len (t.getD i default).fields
      refine awp_skip ?_
      refine awp_seq ?_
      refine awp_block ?_
      refine awp_seq (awp_region ?_)
      refine al_pure rfl rfl rfl (pure_move rfl gU) ?_
      refine al_pure rfl rfl rfl (pure_move rfl gU) ?_
      refine al_pure rfl rfl rfl (pure_indexAddr rfl rfl gU gU rfl rfl rfl (fun hh => Fm.rows_at (by first | omega | (simp at hh; omega)))) ?_
      refine al_pure rfl rfl rfl (pure_fieldRo rfl gU rfl rfl) ?_
      refine al_pure rfl rfl rfl (pure_loadRo rfl gU rfl rfl rfl) ?_
      refine al_pure rfl rfl rfl (pure_indexAddr (j := 0) rfl rfl gU gU rfl rfl (by first | omega | (simp at hh; omega)) (fun hh => Fd.rows_at (by first | omega | (simp at hh; omega)))) ?_
      refine al_pure rfl rfl rfl (pure_loadRoRow rfl gU rfl rfl rfl rfl) ?_
      refine al_do rfl (does_alloc rfl rfl rfl) ?_
      refine al_sub (s := { t := [(0, _, _), (3, _, _), (4, _, _), (22, _, _)], bx := [((.l 4), _)], ow := [] }) (sub_mk (⟨sx rfl, ⟨sx rfl, ⟨sx rfl, ⟨sx rfl, trivial⟩⟩⟩⟩) (⟨sx rfl, trivial⟩) trivial) ?_
      refine al_do rfl (does_store rfl rfl rfl rfl rfl rfl rfl) ?_
      refine al_nil ?_
      refine awp_seq ?_
      refine awp_seq (awp_region ?_)
      refine al_pure rfl rfl rfl (pure_fieldPtr rfl gU rfl rfl) ?_
      refine al_pure rfl rfl rfl (pure_loadBox rfl gU rfl rfl rfl rfl) ?_
      refine al_pure rfl rfl rfl (pure_cmp rfl rfl gU gU rfl) ?_
      refine al_nil ?_
      refine awp_cond rfl (fun hc3 => ?_) (fun hc3 => ?_)
      · try simp only [nn, Fm.rows_len, Fd.rows_len] at hc3
        refine awp_seq (awp_region ?_)
        refine al_pure rfl rfl rfl (pure_assign rfl gU) ?_
        refine al_nil ?_
        refine awp_ret ?_
        repeat (first | refine tR ?_ | refine bR ?_)
        refine ret_ok rfl ?_ trivial
        exact xb_eq (tagged_false fun h => hc3 (h.2 i (by omega)).1).symm
      · try simp only [nn, Fm.rows_len, Fd.rows_len] at hc3
        refine awp_skip ?_
        refine awp_seq (awp_region ?_)
        refine al_pure rfl rfl rfl (pure_assign rfl gU) ?_
        refine al_nil ?_
        refine awp_block ?_
        refine awp_for (ι := Nat) { t := [(0, _, _), (3, _, _), (4, _, _)], bx := [((.l 4), _)], ow := [] } (fun k => [(5, true, xi (k : Int))]) (fun k => []) (fun k => k ≤ i ∧ ∀ j, j < k → (f0 t i).bytes.length = (f0 t j).bytes.length ∧ (f0 t i).bytes ≠ (f0 t j).bytes) (fun k => i - k) (0) (⟨by omega, fun j hj => by omega⟩) (sub_mk (⟨sx rfl, ⟨sx rfl, ⟨sx rfl, ⟨sx rfl, trivial⟩⟩⟩⟩) (⟨sx rfl, trivial⟩) trivial) ?_
        intro k hok2
        dsimp only [List.cons_append, List.nil_append]
        obtain ⟨hk, hinv2⟩ := hok2
        refine awp_seq ?_
        refine awp_seq (awp_region ?_)
        refine al_pure rfl rfl rfl (pure_move rfl gU) ?_
        refine al_pure rfl rfl rfl (pure_move rfl gU) ?_
        refine al_pure rfl rfl rfl (pure_cmp rfl rfl gU gU rfl) ?_
        refine al_nil ?_
        refine awp_cond rfl (fun hc4 => ?_) (fun hc4 => ?_)
        · try simp only [nn, Fm.rows_len, Fd.rows_len] at hc4
          have hnk := hv.nf k (by omega)
          have hrk := Fd.rows_len (t.getD k default).fields
          refine awp_skip ?_
          refine awp_seq ?_
          refine awp_block ?_
          refine awp_seq (awp_region ?_)
          refine al_pure rfl rfl rfl (pure_move rfl gU) ?_
          refine al_pure rfl rfl rfl (pure_move rfl gU) ?_
          refine al_pure rfl rfl rfl (pure_indexAddr rfl rfl gU gU rfl rfl rfl (fun hh => Fm.rows_at (by first | omega | (simp at hh; omega)))) ?_
          refine al_pure rfl rfl rfl (pure_fieldRo rfl gU rfl rfl) ?_
          refine al_pure rfl rfl rfl (pure_loadRo rfl gU rfl rfl rfl) ?_
          refine al_pure rfl rfl rfl (pure_indexAddr (j := 0) rfl rfl gU gU rfl rfl (by first | omega | (simp at hh; omega)) (fun hh => Fd.rows_at (by first | omega | (simp at hh; omega)))) ?_
          refine al_pure rfl rfl rfl (pure_loadRoRow rfl gU rfl rfl rfl rfl) ?_
          refine al_do rfl (does_alloc rfl rfl rfl) ?_
          refine al_do rfl (does_store rfl rfl rfl rfl rfl rfl rfl) ?_
          refine al_nil ?_
          refine awp_sub (s := { t := [(0, _, _), (3, _, _), (4, _, _), (5, _, _), (6, _, _)], bx := [((.l 4), _), ((.l 6), _)], ow := [] }) (sub_mk (⟨sx rfl, ⟨sx rfl, ⟨sx rfl, ⟨sx rfl, ⟨sx rfl, trivial⟩⟩⟩⟩⟩) (⟨sx rfl, ⟨sx rfl, trivial⟩⟩) trivial) ?_
          refine awp_seq (awp_region ?_)
          refine al_pure rfl rfl rfl (pure_fieldPtr rfl gU rfl rfl) ?_
          refine al_pure rfl rfl rfl (pure_loadBox rfl gU rfl rfl rfl rfl) ?_
          refine al_lenS rfl rfl rfl rfl rfl gU (Tryd.underlying9) ?_ (fun hh => by simp at hh); intro hlen
          refine al_pure rfl rfl rfl (pure_fieldPtr rfl gU rfl rfl) ?_
          refine al_pure rfl rfl rfl (pure_loadBox rfl gU rfl rfl rfl rfl) ?_
          refine al_lenS rfl rfl rfl rfl rfl gU (Tryd.underlying9) ?_ (fun hh => by simp at hh); intro hlen
          refine al_pure rfl rfl rfl (pure_cmp rfl rfl gU gU rfl) ?_
          refine al_pure rfl rfl rfl (pure_move rfl gU) ?_
          refine al_pure rfl rfl rfl (pure_fieldPtr rfl gU rfl rfl) ?_
          refine al_pure rfl rfl rfl (pure_loadBox rfl (fun hh => hh) rfl rfl rfl rfl) ?_
          refine al_pure rfl rfl rfl (pure_fieldPtr rfl gU rfl rfl) ?_
          refine al_pure rfl rfl rfl (pure_loadBox rfl (fun hh => hh) rfl rfl rfl rfl) ?_
          refine al_sub (s := { t := [(0, _, _), (3, _, _), (4, _, _), (5, _, _), (45, _, _), (47, _, _), (49, _, _)], bx := [((.l 4), _)], ow := [] }) (sub_mk (⟨sx rfl, ⟨sx rfl, ⟨sx rfl, ⟨sx rfl, ⟨sx rfl, ⟨sx rfl, ⟨sx rfl, trivial⟩⟩⟩⟩⟩⟩⟩) (⟨sx rfl, trivial⟩) trivial) ?_
          refine al_pure rfl rfl rfl (pure_cmpS rfl rfl (fun hh => hh) (fun hh => hh) rfl) ?_
          refine al_pure rfl rfl rfl (pure_or rfl rfl gU (fun _ hi => gP rfl hi)) ?_
          refine al_nil ?_
          refine awp_cond rfl (fun hc5 => ?_) (fun hc5 => ?_)
          · try simp only [nn, Fm.rows_len, Fd.rows_len] at hc5
            have hno : ¬ TaggedP t := fun h => by
              have := (h.2 i (by omega)).2 k (by omega)
              rcases hc5 with q | q
              · exact q (by rw [this.1])
              · exact this.2 q
            refine awp_seq (awp_region ?_)
            refine al_pure rfl rfl rfl (pure_assign rfl gU) ?_
            refine al_nil ?_
            refine awp_ret ?_
            repeat (first | refine tR ?_ | refine bR ?_)
            refine ret_ok rfl ?_ trivial
            exact xb_eq (tagged_false hno).symm
          · try simp only [nn, Fm.rows_len, Fd.rows_len] at hc5
            have h5 : (f0 t i).bytes.length = (f0 t k).bytes.length ∧ (f0 t i).bytes ≠ (f0 t k).bytes := ⟨Int.ofNat.inj hc5.1, hc5.2⟩
            refine awp_skip ?_
            refine awp_region ?_
            refine al_pure rfl rfl rfl (pure_move rfl gU) ?_
            refine al_pure rfl rfl rfl (pure_arith rfl rfl gU gU rfl (IntWalk.i64_in _ (by omega))) ?_
            refine al_pure rfl rfl rfl (pure_assign rfl gU) ?_
            refine al_nil ?_
            refine ⟨k + 1, ?_, ?_, sub_mk (⟨⟨_, rfl, ?_⟩, ⟨sx rfl, ⟨sx rfl, ⟨sx rfl, trivial⟩⟩⟩⟩) (⟨sx rfl, trivial⟩) trivial⟩
            · refine ⟨by omega, fun j hj => ?_⟩
              by_cases e : j = k
              · subst e; exact h5
              · exact hinv2 j (by omega)
            · omega
            · rfl
        · try simp only [nn, Fm.rows_len, Fd.rows_len] at hc4
          have hk2 : k = i := by omega
          refine awp_exit ?_
          repeat (first | refine thenS_exit ?_ | refine blockS_hit ?_ | refine blockS_miss rfl ?_)
          refine awp_region ?_
          refine al_pure rfl rfl rfl (pure_move rfl gU) ?_
          refine al_pure rfl rfl rfl (pure_arith rfl rfl gU gU rfl (IntWalk.i64_in _ (by omega))) ?_
          refine al_pure rfl rfl rfl (pure_assign rfl gU) ?_
          refine al_nil ?_
          refine ⟨i + 1, ?_, ?_, sub_mk (⟨⟨_, rfl, ?_⟩, ⟨sx rfl, trivial⟩⟩) trivial trivial⟩
          · refine ⟨by omega, fun j hj => ?_⟩
            by_cases e : j = i
            · subst e; exact ⟨hc3, fun q hq => hinv2 q (by omega)⟩
            · exact hinv j (by omega)
          · omega
          · rfl
    · try simp only [nn, Fm.rows_len, Fd.rows_len] at hc2
      refine awp_exit ?_
      repeat (first | refine thenS_exit ?_ | refine blockS_hit ?_ | refine blockS_miss rfl ?_)
      refine awp_seq (awp_region ?_)
      refine al_pure rfl rfl rfl (pure_assign rfl gU) ?_
      refine al_nil ?_
      refine awp_ret ?_
      repeat (first | refine tR ?_ | refine bR ?_)
      refine ret_ok rfl ?_ trivial
      exact xb_eq (tagged_true ⟨hc, fun j hj => hinv j (by omega)⟩).symm
theorem fTagged_spec (t : List Fm) : Ctr sys 19 [xtab t] [] (xb (taggedB t)) none [] := by
  have hrl := Fm.rows_len t
  refine spec_intro Tryd.func19 rfl rfl rfl rfl rfl rfl ?_
  refine awp_seq (awp_region ?_)
  refine al_pure rfl rfl rfl (pure_assign rfl gU) ?_
  refine al_nil ?_
  refine awp_seq ?_
  refine awp_seq (awp_region ?_)
  refine al_pure rfl rfl rfl (pure_move rfl gU) ?_
  refine al_call rfl rfl rfl rfl rfl rfl gU gU (fValid_spec _) rfl ?_
  refine al_pure rfl rfl rfl (pure_cmp rfl rfl gU gU rfl) ?_
  refine al_nil ?_
  refine awp_cond rfl (fun hc => ?_) (fun hc => ?_)
  · try simp only [nn, Fm.rows_len, Fd.rows_len] at hc
    refine awp_seq (awp_region ?_)
    refine al_pure rfl rfl rfl (pure_assign rfl gU) ?_
    refine al_nil ?_
    refine awp_ret ?_
    repeat (first | refine tR ?_ | refine bR ?_)
    refine ret_ok rfl ?_ trivial
    exact xb_eq (tagged_false fun h => hc h.1).symm
  · try simp only [nn, Fm.rows_len, Fd.rows_len] at hc
    have hv := Tab.of hc
    refine awp_skip ?_
    refine awp_seq (awp_region ?_)
    refine al_makeMap rfl rfl rfl rfl (fun bm10 => ?_)
    refine al_pure rfl rfl rfl (pure_assign rfl gU) ?_
    refine al_nil ?_
    refine awp_sub (s := { t := [(0, _, _), (3, _, _)], bx := [], ow := [], mp := _ }) (sub_mk (⟨sx rfl, ⟨sx rfl, trivial⟩⟩) trivial trivial (.inr rfl)) ?_
    refine awp_seq ?_
    refine awp_seq (awp_region ?_)
    refine al_pure rfl rfl rfl (pure_move rfl gU) ?_
    refine al_lenSl rfl rfl rfl rfl rfl gU rfl rfl ?_ (fun hh => by simp at hh); intro hlen
    refine al_pure rfl rfl rfl (pure_move rfl gU) ?_
    refine al_nil ?_
    refine awp_block ?_
    refine awp_forM (ι := Nat) { t := [(0, _, _), (3, _, _), (11, _, _), (12, _, _)], bx := [], ow := [] } (fun i => [(13, true, xi (i : Int))]) (fun i => []) (fun i => [(bm10, true, mset (tags t i))]) (fun i => i ≤ t.length ∧ ∀ j, j < i → okT t j) (fun i => t.length - i) (0) (⟨by omega, fun j hj => by omega⟩) (sub_mk (⟨sx rfl, ⟨sx rfl, ⟨sx rfl, ⟨sx rfl, ⟨sx rfl, trivial⟩⟩⟩⟩⟩) trivial trivial (.inr rfl)) ?_
    intro i hok
    dsimp only [List.cons_append, List.nil_append]
    obtain ⟨hi, hinv⟩ := hok
    refine awp_seq (awp_region ?_)
    refine al_pure rfl rfl rfl (pure_cmp rfl rfl gU gU rfl) ?_
    refine al_nil ?_
    refine awp_seq ?_
    refine awp_cond rfl (fun hc2 => ?_) (fun hc2 => ?_)
    · try simp only [nn, Fm.rows_len, Fd.rows_len] at hc2
      have hnf := hv.nf i (by omega)
      have hrf := Fd.rows_len (t.getD i default).fields
      have hn0 := hv.nf 0 (by omega)
      have hr0 := Fd.rows_len (t.getD 0 default).fields
      refine awp_skip ?_
      refine awp_seq ?_
      refine awp_block ?_
      refine awp_seq (awp_region ?_)
      refine al_pure rfl rfl rfl (pure_indexAddr rfl rfl gU gU rfl rfl rfl (fun hh => Fm.rows_at (by first | omega | (simp at hh; omega)))) ?_
      refine al_pure rfl rfl rfl (pure_loadRoRow rfl gU rfl rfl rfl rfl) ?_
      refine al_do rfl (does_alloc rfl rfl rfl) ?_
      refine al_do rfl (does_store rfl rfl rfl rfl rfl rfl rfl) ?_
      refine al_nil ?_
      refine awp_seq (awp_region ?_)
      refine al_pure rfl rfl rfl (pure_fieldPtr rfl gU rfl rfl) ?_
      refine al_pure rfl rfl rfl (pure_loadBox rfl gU rfl rfl rfl rfl) ?_
      refine al_pure rfl rfl rfl (pure_indexAddr (j := 0) rfl rfl gU gU rfl rfl (by first | omega | (simp at hh; omega)) (fun hh => Fd.rows_at (by first | omega | (simp at hh; omega)))) ?_
      refine al_pure rfl rfl rfl (pure_loadRoRow rfl gU rfl rfl rfl rfl) ?_
      refine al_do rfl (does_alloc rfl rfl rfl) ?_
      refine al_do rfl (does_store rfl rfl rfl rfl rfl rfl rfl) ?_
      refine al_nil ?_
      refine awp_sub (s := { t := [(0, _, _), (3, _, _), (6, _, _), (11, _, _), (12, _, _), (13, _, _)], bx := [((.l 6), _)], ow := [], mp := _ }) (sub_mk (⟨sx rfl, ⟨sx rfl, ⟨sx rfl, ⟨sx rfl, ⟨sx rfl, ⟨sx rfl, trivial⟩⟩⟩⟩⟩⟩) (⟨sx rfl, trivial⟩) trivial (.inr rfl)) ?_
      refine awp_seq ?_
      refine awp_seq ?_
      refine awp_drawn' (by kernel_rfl) ?_
      refine dr_pure rfl rfl rfl rfl (pure_fieldPtr rfl gU rfl rfl) ?_
      refine dr_load rfl rfl rfl rfl rfl rfl rfl gU rfl rfl rfl rfl ?_
      refine dr_pure rfl rfl rfl rfl (pure_cmp rfl rfl gU gU rfl) ?_
      refine dr_pure rfl rfl rfl rfl (pure_move rfl gU) ?_
      refine dr_pure rfl rfl rfl rfl (pure_fieldPtr rfl gU rfl rfl) ?_
      refine dr_load rfl rfl rfl rfl rfl rfl rfl (fun hh => hh) rfl rfl rfl rfl ?_
      refine dr_pure rfl rfl rfl rfl (pure_lenS rfl (fun hh => hh) (Tryd.underlying9)) ?_
      refine dr_pure rfl rfl rfl rfl (pure_move rfl gU) ?_
      refine dr_pure rfl rfl rfl rfl (pure_indexAddr (j := 0) rfl rfl (fun hh => hh) gU rfl rfl (by first | omega | (simp at hh; omega)) (fun hh => Fm.rows_at (by first | omega | (simp at hh; omega)))) ?_
      refine dr_pure rfl rfl rfl rfl (pure_fieldRo rfl (fun hh => hh) rfl rfl) ?_
      refine dr_pure rfl rfl rfl rfl (pure_loadRo rfl (fun hh => hh) rfl rfl rfl) ?_
      refine dr_pure rfl rfl rfl rfl (pure_indexAddr (j := 0) rfl rfl (fun hh => hh) gU rfl rfl (by first | omega | (simp at hh; omega)) (fun hh => Fd.rows_at (by first | omega | (simp at hh; omega)))) ?_
      refine dr_pure rfl rfl rfl rfl (pure_fieldRo rfl (fun hh => hh) rfl rfl) ?_
      refine dr_pure rfl rfl rfl rfl (pure_loadRo rfl (fun hh => hh) rfl rfl rfl) ?_
      refine dr_pure rfl rfl rfl rfl (pure_lenS rfl (fun hh => hh) (Tryd.underlying9)) ?_
      refine dr_pure rfl rfl rfl rfl (pure_cmp rfl rfl (fun hh => hh) (fun hh => hh) rfl) ?_
      refine dr_pure rfl rfl rfl rfl (pure_or rfl rfl gU (fun _ hi => gP rfl hi)) ?_
      refine dr_pure rfl rfl rfl rfl (pure_move rfl gU) ?_
      refine dr_pure rfl rfl rfl rfl (pure_move rfl gU) ?_
      refine dr_pure rfl rfl rfl rfl (pure_fieldPtr rfl gU rfl rfl) ?_
      refine dr_load rfl rfl rfl rfl rfl rfl rfl (fun hh => hh) rfl rfl rfl rfl ?_
      refine dr_pure rfl rfl rfl rfl (pure_lookup (i := 0) (c := .b (decide ((f0 t i).bytes ∈ tags t i))) (z := .bool false) rfl rfl (fun hh => hh) (fun hh => hh) rfl Tryd.underlying81 Tryd.underlying9 (by kernel_rfl) (fun w S => mset_rep _ _)) ?_
      refine dr_pure rfl rfl rfl rfl (pure_or rfl rfl gU (fun _ hi => gP rfl hi)) ?_
      refine dr_nil (by kernel_rfl) ?_
      refine awp_sub (s := { t := [(0, _, _), (3, _, _), (6, _, _), (11, _, _), (12, _, _), (13, _, _), (43, _, _)], bx := [((.l 6), _)], ow := [], mp := _ }) (sub_mk (⟨sx rfl, ⟨sx rfl, ⟨sx rfl, ⟨sx rfl, ⟨sx rfl, ⟨sx rfl, ⟨sx rfl, trivial⟩⟩⟩⟩⟩⟩⟩) (⟨sx rfl, trivial⟩) trivial (.inr rfl)) ?_
      refine awp_cond rfl (fun hc3 => ?_) (fun hc3 => ?_)
      · try simp only [nn, Fm.rows_len, Fd.rows_len] at hc3
        have hno : ¬ TaggedP t := fun h => by
          have h1 := okT_of (h.2 i (by omega))
          rcases hc3 with (q | q) | q
          · exact q h1.1
          · exact q (by rw [h1.2.1])
          · exact h1.2.2 q
        refine awp_seq (awp_region ?_)
        refine al_pure rfl rfl rfl (pure_assign rfl gU) ?_
        refine al_nil ?_
        refine awp_ret ?_
        repeat (first | refine tR ?_ | refine bR ?_)
        refine ret_ok rfl ?_ trivial
        exact xb_eq (tagged_false hno).symm
      · try simp only [nn, Fm.rows_len, Fd.rows_len] at hc3
        obtain ⟨⟨q1, q2⟩, q3⟩ := hc3
        refine awp_skip ?_
        refine awp_region ?_
        refine al_pure rfl rfl rfl (pure_move rfl gU) ?_
        refine al_pure rfl rfl rfl (pure_fieldPtr rfl gU rfl rfl) ?_
        refine al_pure rfl rfl rfl (pure_loadBox rfl gU rfl rfl rfl rfl) ?_
        refine al_do rfl (does_mapUpdate rfl rfl rfl rfl Tryd.underlying81 Tryd.underlying9 (fun _ _ _ h => by cases h; rfl)) ?_
        refine al_nil ?_
        refine awp_region ?_
        refine al_pure rfl rfl rfl (pure_arith rfl rfl gU gU rfl (IntWalk.i64_in _ (by omega))) ?_
        refine al_pure rfl rfl rfl (pure_move rfl gU) ?_
        refine al_nil ?_
        refine ⟨i + 1, ?_, ?_, sub_mk (⟨⟨_, rfl, ?_⟩, ⟨sx rfl, ⟨sx rfl, ⟨sx rfl, ⟨sx rfl, trivial⟩⟩⟩⟩⟩) trivial trivial (.inr ?_)⟩
        · refine ⟨by omega, fun j hj => ?_⟩
          by_cases e : j = i
          · subst e; exact ⟨q1, Int.ofNat.inj q2, q3⟩
          · exact hinv j (by omega)
        · omega
        · rfl
        · rw [tags_succ, ← mset_put q3]; rfl
    · try simp only [nn, Fm.rows_len, Fd.rows_len] at hc2
      refine awp_exit ?_
      repeat (first | refine thenS_exit ?_ | refine blockS_hit ?_ | refine blockS_miss rfl ?_)
      refine awp_seq (awp_region ?_)
      refine al_pure rfl rfl rfl (pure_assign rfl gU) ?_
      refine al_nil ?_
      refine awp_ret ?_
      repeat (first | refine tR ?_ | refine bR ?_)
      refine ret_ok rfl ?_ trivial
      exact xb_eq (tagged_true ⟨hc, fun j hj => okR_of hinv j (by omega)⟩).symm
end Go.Proofs.YthfoclblmdnckaaDoor
/- Contracts: first bytes, on both sides. -/
set_option linter.unusedVariables false
set_option linter.unusedSimpArgs false
namespace Go.Proofs.YthfoclblmdnckaaDoor
open Go Go.Abs
theorem bndL_plain {r1 r2 : Int → Int × Int} : ∀ {l : List Fd}, (∀ k, k < l.length → (l.getD k default).kind ≠ 5) → bndL r1 l = bndL r2 l
  | [], _ => rfl
  | f :: l, h => by
    have h0 := h 0 (by simp)
    rw [List.getD_cons_zero] at h0
    rw [bndL, bndL, bndL_plain (r1 := r1) (r2 := r2) (l := l) fun k hk => by have := h (k + 1) (by simpa using hk); simpa using this, bndF_eq h0, bndF_eq h0]
theorem Plain1.bnd96 {l : List Fd} {rec : Int → Int × Int} (h : Plain1 l) : 0 ≤ (bndL rec l).1 ∧ (bndL rec l).1 ≤ (bndL rec l).2 ∧ (bndL rec l).2 ≤ 96 := by
  have := bndL_le (rec := rec) (B := 16) (l := l) fun j hj => by
    obtain ⟨⟨h1, h2, h3, h4, h5, h6, h8⟩, h7, h9⟩ := h.ok j hj
    rw [bndF_eq h7]
    unfold bnd1
    grind
  have hl := h.len
  omega
/-- So many bytes from one on. -/
def rngP (lo : Int) (k : Nat) : List UInt8 := (List.range k).map fun j => UInt8.ofNat (lo.toNat + j)
theorem rngP_len (lo : Int) (k : Nat) : (rngP lo k).length = k := by simp [rngP]
theorem rngP_snoc (lo : Int) (k : Nat) : rngP lo (k + 1) = rngP lo k ++ [UInt8.ofNat (lo.toNat + k)] := by simp [rngP, List.range_succ]
def rngE (p : Int × Int) : List UInt8 := rngP p.1 (p.2 + 1 - p.1).toNat
def lohi (t : List Fm) (f : Fd) : Int × Int :=
  if f.kind = 1 then ((f.bytes.getD 0 0).toNat, (f.bytes.getD 0 0).toNat) else if f.kind = 3 then (0, f.n) else if f.kind = 4 then (f.low, f.high) else if f.kind = 5 then bnd0 t f.n else if f.kind = 6 ∧ f.high = 0 then (0, -1) else (0, 255)
def firstE (t : List Fm) (i : Int) : List UInt8 × Int := if errE t i ≠ 0 then ([], errE t i) else (rngE (lohi t ((t.getD i.toNat default).fields.getD 0 default)), 0)
abbrev xbe (p : List UInt8 × Int) : X := .tup [.c (.sl 1 (bytesR p.1)), .c (.i .i64 p.2)]
theorem boundsE_err (t : List Fm) (i : Int) : (boundsE t i).2.2 = errE t i := by
  unfold boundsE
  split
  · rfl
  · rename_i h; exact (Decidable.not_not.1 h).symm
theorem xbs_rng {lo : Int} {k : Nat} {n : Int} (h : n = lo + k) (h0 : 0 ≤ lo) (h1 : n ≤ 255) : X.v (.c (.sl 1 (bytesR (rngP lo k) ++ [[.i .u8 n]]))) = xbs (rngP lo (k + 1)) := by
  rw [rngP_snoc]
  refine xbs_snoc _ _ _ ?_
  have hu : (UInt8.ofNat (lo.toNat + k)).toNat = (lo.toNat + k) % 256 := UInt8.toNat_ofNat'
  rw [hu]; omega
/-- What the first field's kind leads to. -/
structure LoHi (p : Int × Int) : Prop where
  a : 0 ≤ p.1
  b : p.2 ≤ 255
  c : p.1 ≤ p.2 + 1
theorem lohi_ok {t : List Fm} {i : Nat} (hv : Tab t) (hi : i < t.length) : LoHi (lohi t ((t.getD i default).fields.getD 0 default)) := by
  have hnf := hv.nf i hi
  obtain ⟨h1, h2, h3, h4, h5, h6, h8⟩ := hv.fdOk hi (k := 0) (by omega)
  have hnest := (hv.fds hi).nest 0 (by omega)
  have hb := (((t.getD i default).fields.getD 0 default).bytes.getD 0 0).toNat_lt
  unfold lohi
  by_cases h : ((t.getD i default).fields.getD 0 default).kind = 5
  · rw [if_neg (by omega), if_neg (by omega), if_neg (by omega), if_pos h]
    obtain ⟨_, hp⟩ := hnest h
    have := hp.bnd96 (rec := fun _ => (0, 0))
    unfold bnd0 fmAt
    exact ⟨by omega, by omega, by omega⟩
  · rw [if_neg (c := ((t.getD i default).fields.getD 0 default).kind = 5) h]
    split
    · exact ⟨by dsimp only; omega, by dsimp only; omega, by dsimp only; omega⟩
    split
    · exact ⟨by dsimp only; omega, by dsimp only; omega, by dsimp only; omega⟩
    split
    · exact ⟨by dsimp only; omega, by dsimp only; omega, by dsimp only; omega⟩
    split
    · exact ⟨by decide, by decide, by decide⟩
    · exact ⟨by decide, by decide, by decide⟩
def fstJ (p : Int × Int) : St := { t := [(9, true, xi p.1), (10, true, xi p.2)], bx := [], ow := [] }
theorem fFirst_spec (t : List Fm) (i : Int) : Ctr sys 16 [xtab t, xi i] [] (xbe (firstE t i)) none [] := by
  have hrl := Fm.rows_len t
  have he := boundsE_err t i
  have hbs := fBounds_spec t i
  generalize boundsE t i = bq at hbs he
  refine spec_intro Tryd.func16 rfl rfl rfl rfl rfl rfl ?_
  refine awp_seq (awp_region ?_)
  refine al_do rfl (does_nil (.inr rfl) rfl rfl) ?_
  refine al_pure rfl rfl rfl (pure_assign rfl gU) ?_
  refine al_nil ?_
  refine awp_seq ?_
  refine awp_seq (awp_region ?_)
  refine al_pure rfl rfl rfl (pure_move rfl gU) ?_
  refine al_pure rfl rfl rfl (pure_move rfl gU) ?_
  refine al_call rfl rfl rfl rfl rfl rfl gU gU (hbs) rfl ?_
  refine al_pure rfl rfl rfl (pure_move rfl gU) ?_
  refine al_pure rfl rfl rfl (pure_extract rfl gU rfl) ?_
  refine al_pure rfl rfl rfl (pure_extract rfl gU rfl) ?_
  refine al_pure rfl rfl rfl (pure_extract rfl gU rfl) ?_
  refine al_pure rfl rfl rfl (pure_assign rfl gU) ?_
  refine al_pure rfl rfl rfl (pure_assign rfl gU) ?_
  refine al_pure rfl rfl rfl (pure_assign rfl gU) ?_
  refine al_nil ?_
  refine awp_sub (s := { t := [(0, _, _), (1, _, _), (8, _, _)], bx := [], ow := [] }) (sub_mk (⟨sx rfl, ⟨sx rfl, ⟨sx rfl, trivial⟩⟩⟩) trivial trivial) ?_
  refine awp_seq (awp_region ?_)
  refine al_pure rfl rfl rfl (pure_move rfl gU) ?_
  refine al_pure rfl rfl rfl (pure_cmp rfl rfl gU gU rfl) ?_
  refine al_nil ?_
  refine awp_cond rfl (fun hc => ?_) (fun hc => ?_)
  · try simp only [nn, Fm.rows_len, Fd.rows_len] at hc
    rw [he] at hc
    have h1 : firstE t i = ([], errE t i) := by rw [firstE, if_pos hc]
    rw [h1]
    refine awp_seq (awp_region ?_)
    refine al_pure rfl rfl rfl (pure_move rfl gU) ?_
    refine al_do rfl (does_nil (.inr rfl) rfl rfl) ?_
    refine al_pure rfl rfl rfl (pure_assign rfl gU) ?_
    refine al_nil ?_
    refine awp_ret ?_
    repeat (first | refine tR ?_ | refine bR ?_)
    refine ret_ok rfl ?_ trivial
    (rw [he]; rfl)
  · try simp only [nn, Fm.rows_len, Fd.rows_len] at hc
    rw [he] at hc
    obtain ⟨hv, hi0, hi1⟩ := errE_zero hc
    have hnf := hv.nf i.toNat (by omega)
    have hrf := Fd.rows_len (t.getD i.toNat default).fields
    have hok := hv.fdOk (i := i.toNat) (by omega) (k := 0) (by omega)
    have hnest := (hv.fds (i := i.toNat) (by omega)).nest 0 (by omega)
    have hlh := lohi_ok (i := i.toNat) hv (by omega)
    have hbd := (hv.fds (i := i.toNat) (by omega)).bndF (k := 0) (by omega)
    obtain ⟨hk1, hk2, hk3, hk4, hk5, hk6, hk8⟩ := hok
    have hu := (((t.getD i.toNat default).fields.getD 0 default).bytes.getD 0 0).toNat_lt
    have h1 : firstE t i = (rngE (lohi t ((t.getD i.toNat default).fields.getD 0 default)), 0) := by rw [firstE, if_neg (by omega)]
    rw [h1]
    have hbl : ((t.getD i.toNat default).fields.getD 0 default).kind = 1 → 1 ≤ ((t.getD i.toNat default).fields.getD 0 default).bytes.length := fun hk => by
      obtain ⟨_, hr, _⟩ := fieldE_rng (hv.fd i.toNat (by omega) 0 (by omega))
      unfold rangeB at hr
      rw [if_pos hk] at hr
      simp only [Bool.and_eq_true, decide_eq_true_eq] at hr
      exact hr.1
    refine awp_skip ?_
    refine awp_seq (awp_region ?_)
    refine al_pure rfl rfl rfl (pure_assign rfl gU) ?_
    refine al_pure rfl rfl rfl (pure_assign rfl gU) ?_
    refine al_nil ?_
    refine awp_seq (awp_region ?_)
    refine al_pure rfl rfl rfl (pure_move rfl gU) ?_
    refine al_pure rfl rfl rfl (pure_move rfl gU) ?_
    refine al_pure rfl rfl rfl (pure_indexAddr (j := i.toNat) rfl rfl gU gU rfl rfl (by first | omega | (simp at hh; omega)) (fun hh => Fm.rows_at (by first | omega | (simp at hh; omega)))) ?_
    refine al_pure rfl rfl rfl (pure_fieldRo rfl gU rfl rfl) ?_
    refine al_pure rfl rfl rfl (pure_loadRo rfl gU rfl rfl rfl) ?_
    refine al_pure rfl rfl rfl (pure_indexAddr (j := 0) rfl rfl gU gU rfl rfl (by first | omega | (simp at hh; omega)) (fun hh => Fd.rows_at (by first | omega | (simp at hh; omega)))) ?_
    refine al_pure rfl rfl rfl (pure_loadRoRow rfl gU rfl rfl rfl rfl) ?_
    refine al_do rfl (does_alloc rfl rfl rfl) ?_
    refine al_sub (s := { t := [(0, _, _), (9, _, _), (10, _, _), (11, _, _), (30, _, _)], bx := [((.l 11), _)], ow := [] }) (sub_mk (⟨sx rfl, ⟨sx rfl, ⟨sx rfl, ⟨sx rfl, ⟨sx rfl, trivial⟩⟩⟩⟩⟩) (⟨sx rfl, trivial⟩) trivial) ?_
    refine al_do rfl (does_store rfl rfl rfl rfl rfl rfl rfl) ?_
    refine al_nil ?_
    refine awp_cut (fstJ (lohi t ((t.getD i.toNat default).fields.getD 0 default))) (True) ?_ (fun hj => ?_)
    · refine awp_seq (awp_region ?_)
      refine al_pure rfl rfl rfl (pure_fieldPtr rfl gU rfl rfl) ?_
      refine al_pure rfl rfl rfl (pure_loadBox rfl gU rfl rfl rfl rfl) ?_
      refine al_nil ?_
      refine awp_block ?_
      refine awp_seq (awp_region ?_)
      refine al_pure rfl rfl rfl (pure_cmp rfl rfl gU gU rfl) ?_
      refine al_pure rfl rfl rfl (pure_assign rfl gU) ?_
      refine al_nil ?_
      refine awp_cond rfl (fun hc2 => ?_) (fun hc2 => ?_)
      · try simp only [nn, Fm.rows_len, Fd.rows_len] at hc2
        have := hbl hc2
        refine awp_drawn' (by kernel_rfl) ?_
        refine dr_pure rfl rfl rfl rfl (pure_fieldPtr rfl gU rfl rfl) ?_
        refine dr_load rfl rfl rfl rfl rfl rfl rfl gU rfl rfl rfl rfl ?_
        refine dr_pure rfl rfl rfl rfl (pure_indexSg (j := 0) rfl rfl gU gU Tryd.underlying9 (by first | omega | (simp at hh; omega)) (fun hh => by first | omega | (simp at hh; omega))) ?_
        refine dr_pure rfl rfl rfl rfl (pure_convInt rfl gU ⟨_, Tryd.underlying5⟩ (Tryd.underlying3) (IntWalk.i64_in _ (by omega))) ?_
        refine dr_pure rfl rfl rfl rfl (pure_fieldPtr rfl gU rfl rfl) ?_
        refine dr_load rfl rfl rfl rfl rfl rfl rfl gU rfl rfl rfl rfl ?_
        refine dr_pure rfl rfl rfl rfl (pure_indexSg (j := 0) rfl rfl gU gU Tryd.underlying9 (by first | omega | (simp at hh; omega)) (fun hh => by first | omega | (simp at hh; omega))) ?_
        refine dr_pure rfl rfl rfl rfl (pure_convInt rfl gU ⟨_, Tryd.underlying5⟩ (Tryd.underlying3) (IntWalk.i64_in _ (by omega))) ?_
        refine dr_pure rfl rfl rfl rfl (pure_assign rfl gU) ?_
        refine dr_pure rfl rfl rfl rfl (pure_assign rfl gU) ?_
        refine dr_nil (by kernel_rfl) ?_
        refine ⟨trivial, sub_mk ⟨⟨_, rfl, ?_⟩, ⟨_, rfl, ?_⟩, trivial⟩ trivial trivial⟩
        all_goals exact tx (xi_eq (by rw [lohi, if_pos hc2]))
      · try simp only [nn, Fm.rows_len, Fd.rows_len] at hc2
        refine awp_seq (awp_region ?_)
        refine al_pure rfl rfl rfl (pure_cmp rfl rfl gU gU rfl) ?_
        refine al_pure rfl rfl rfl (pure_assign rfl gU) ?_
        refine al_nil ?_
        refine awp_sub (s := { t := [(0, _, _), (9, _, _), (10, _, _), (11, _, _), (32, _, _), (43, _, _)], bx := [((.l 11), _)], ow := [] }) (sub_mk (⟨sx rfl, ⟨sx rfl, ⟨sx rfl, ⟨sx rfl, ⟨sx rfl, ⟨sx rfl, trivial⟩⟩⟩⟩⟩⟩) (⟨sx rfl, trivial⟩) trivial) ?_
        refine awp_cond rfl (fun hc3 => ?_) (fun hc3 => ?_)
        · try simp only [nn, Fm.rows_len, Fd.rows_len] at hc3
          refine awp_region ?_
          refine al_pure rfl rfl rfl (pure_fieldPtr rfl gU rfl rfl) ?_
          refine al_pure rfl rfl rfl (pure_loadBox rfl gU rfl rfl rfl rfl) ?_
          refine al_pure rfl rfl rfl (pure_assign rfl gU) ?_
          refine al_nil ?_
          refine ⟨trivial, sub_mk ⟨⟨_, rfl, ?_⟩, ⟨_, rfl, ?_⟩, trivial⟩ trivial trivial⟩
          all_goals exact tx (xi_eq (by rw [lohi, if_neg hc2, if_pos hc3]))
        · try simp only [nn, Fm.rows_len, Fd.rows_len] at hc3
          refine awp_seq (awp_region ?_)
          refine al_pure rfl rfl rfl (pure_cmp rfl rfl gU gU rfl) ?_
          refine al_pure rfl rfl rfl (pure_assign rfl gU) ?_
          refine al_nil ?_
          refine awp_cond rfl (fun hc4 => ?_) (fun hc4 => ?_)
          · try simp only [nn, Fm.rows_len, Fd.rows_len] at hc4
            refine awp_drawn' (by kernel_rfl) ?_
            refine dr_pure rfl rfl rfl rfl (pure_fieldPtr rfl gU rfl rfl) ?_
            refine dr_load rfl rfl rfl rfl rfl rfl rfl gU rfl rfl rfl rfl ?_
            refine dr_pure rfl rfl rfl rfl (pure_fieldPtr rfl gU rfl rfl) ?_
            refine dr_load rfl rfl rfl rfl rfl rfl rfl gU rfl rfl rfl rfl ?_
            refine dr_pure rfl rfl rfl rfl (pure_assign rfl gU) ?_
            refine dr_pure rfl rfl rfl rfl (pure_assign rfl gU) ?_
            refine dr_nil (by kernel_rfl) ?_
            refine ⟨trivial, sub_mk ⟨⟨_, rfl, ?_⟩, ⟨_, rfl, ?_⟩, trivial⟩ trivial trivial⟩
            all_goals exact tx (xi_eq (by rw [lohi, if_neg hc2, if_neg hc3, if_pos hc4]))
          · try simp only [nn, Fm.rows_len, Fd.rows_len] at hc4
            refine awp_seq (awp_region ?_)
            refine al_pure rfl rfl rfl (pure_cmp rfl rfl gU gU rfl) ?_
            refine al_pure rfl rfl rfl (pure_assign rfl gU) ?_
            refine al_nil ?_
            refine awp_cond rfl (fun hc5 => ?_) (fun hc5 => ?_)
            · try simp only [nn, Fm.rows_len, Fd.rows_len] at hc5
              refine awp_seq (awp_region ?_)
              refine al_pure rfl rfl rfl (pure_move rfl gU) ?_
              refine al_pure rfl rfl rfl (pure_loadBoxRow rfl gU rfl rfl rfl rfl rfl) ?_
              refine al_call rfl rfl rfl rfl rfl rfl gU gU (fbounds_spec _ _ (hv.fdOk (i := i.toNat) (by omega) (k := 0) (by omega)) hnest) rfl ?_
              refine al_pure rfl rfl rfl (pure_move rfl gU) ?_
              refine al_pure rfl rfl rfl (pure_extract rfl gU rfl) ?_
              refine al_pure rfl rfl rfl (pure_extract rfl gU rfl) ?_
              refine al_pure rfl rfl rfl (pure_assign rfl gU) ?_
              refine al_pure rfl rfl rfl (pure_assign rfl gU) ?_
              refine al_nil ?_
              refine awp_sub (s := { t := [(9, _, _), (10, _, _)], bx := [], ow := [] }) (sub_mk (⟨sx rfl, ⟨sx rfl, trivial⟩⟩) trivial trivial) ?_
              refine awp_region ?_
              refine al_pure rfl rfl rfl (pure_move rfl gU) ?_
              refine al_pure rfl rfl rfl (pure_arith rfl rfl gU gU rfl (IntWalk.i64_in _ (by omega))) ?_
              refine al_pure rfl rfl rfl (pure_move rfl gU) ?_
              refine al_pure rfl rfl rfl (pure_arith rfl rfl gU gU rfl (IntWalk.i64_in _ (by omega))) ?_
              refine al_pure rfl rfl rfl (pure_assign rfl gU) ?_
              refine al_pure rfl rfl rfl (pure_assign rfl gU) ?_
              refine al_nil ?_
              refine ⟨trivial, sub_mk ⟨⟨_, rfl, ?_⟩, ⟨_, rfl, ?_⟩, trivial⟩ trivial trivial⟩
              · exact tx (xi_eq (by rw [lohi, if_neg hc2, if_neg hc3, if_neg hc4, if_pos hc5, bndF, if_pos hc5]; dsimp only; omega))
              · exact tx (xi_eq (by rw [lohi, if_neg hc2, if_neg hc3, if_neg hc4, if_pos hc5, bndF, if_pos hc5]; dsimp only; omega))
            · try simp only [nn, Fm.rows_len, Fd.rows_len] at hc5
              refine awp_seq (awp_region ?_)
              refine al_pure rfl rfl rfl (pure_cmp rfl rfl gU gU rfl) ?_
              refine al_pure rfl rfl rfl (pure_assign rfl gU) ?_
              refine al_nil ?_
              refine awp_sub (s := { t := [(9, _, _), (10, _, _), (11, _, _), (65, _, _)], bx := [((.l 11), _)], ow := [] }) (sub_mk (⟨sx rfl, ⟨sx rfl, ⟨sx rfl, ⟨sx rfl, trivial⟩⟩⟩⟩) (⟨sx rfl, trivial⟩) trivial) ?_
              refine awp_cond rfl (fun hc6 => ?_) (fun hc6 => ?_)
              · try simp only [nn, Fm.rows_len, Fd.rows_len] at hc6
                refine awp_seq (awp_region ?_)
                refine al_pure rfl rfl rfl (pure_fieldPtr rfl gU rfl rfl) ?_
                refine al_pure rfl rfl rfl (pure_loadBox rfl gU rfl rfl rfl rfl) ?_
                refine al_pure rfl rfl rfl (pure_cmp rfl rfl gU gU rfl) ?_
                refine al_nil ?_
                refine awp_cond rfl (fun hc7 => ?_) (fun hc7 => ?_)
                · try simp only [nn, Fm.rows_len, Fd.rows_len] at hc7
                  refine awp_region ?_
                  refine al_pure rfl rfl rfl (pure_assign rfl gU) ?_
                  refine al_nil ?_
                  refine ⟨trivial, sub_mk ⟨⟨_, rfl, ?_⟩, ⟨_, rfl, ?_⟩, trivial⟩ trivial trivial⟩
                  all_goals exact tx (xi_eq (by rw [lohi, if_neg hc2, if_neg hc3, if_neg hc4, if_neg hc5, if_pos ⟨hc6, hc7⟩]))
                · try simp only [nn, Fm.rows_len, Fd.rows_len] at hc7
                  refine awp_skip ?_
                  refine ⟨trivial, sub_mk ⟨⟨_, rfl, ?_⟩, ⟨_, rfl, ?_⟩, trivial⟩ trivial trivial⟩
                  all_goals exact tx (xi_eq (by rw [lohi, if_neg hc2, if_neg hc3, if_neg hc4, if_neg hc5, if_neg (fun h => hc7 h.2)]))
              · try simp only [nn, Fm.rows_len, Fd.rows_len] at hc6
                refine awp_skip ?_
                refine ⟨trivial, sub_mk ⟨⟨_, rfl, ?_⟩, ⟨_, rfl, ?_⟩, trivial⟩ trivial trivial⟩
                all_goals exact tx (xi_eq (by rw [lohi, if_neg hc2, if_neg hc3, if_neg hc4, if_neg hc5, if_neg (fun h => hc6 h.1)]))
    · generalize lohi t ((t.getD i.toNat default).fields.getD 0 default) = p at hlh ⊢
      obtain ⟨p1, p2, p3⟩ := hlh
      have hpl := fun k => rngP_len p.1 k
      have hbr := fun k => bytesR_len (rngP p.1 k)
      refine awp_seq (awp_region ?_)
      refine al_do rfl (does_nil (.inr rfl) rfl rfl) ?_
      refine al_nil ?_
      refine awp_seq ?_
      refine awp_seq (awp_region ?_)
      refine al_pure rfl rfl rfl (pure_move rfl gU) ?_
      refine al_pure rfl rfl rfl (pure_assign rfl gU) ?_
      refine al_nil ?_
      refine awp_block ?_
      refine awp_for (ι := Nat) { t := [(10, _, _)], bx := [], ow := [((.t 12), _)] } (fun k => [(13, true, xi (p.1 + (k : Int))), (12, true, xbs (rngP p.1 k))]) (fun k => []) (fun k => p.1 + (k : Int) ≤ p.2 + 1) (fun k => (p.2 + 1 - p.1 - (k : Int)).toNat) (0) (by omega) (sub_mk (⟨⟨_, rfl, by simp⟩, ⟨sx rfl, ⟨sx rfl, trivial⟩⟩⟩) trivial (⟨rfl, trivial⟩)) ?_
      intro k hok
      dsimp only [List.cons_append, List.nil_append]
      have hbk := hbr k
      have hpk := hpl k
      refine awp_seq ?_
      refine awp_seq (awp_region ?_)
      refine al_pure rfl rfl rfl (pure_move rfl gU) ?_
      refine al_pure rfl rfl rfl (pure_move rfl gU) ?_
      refine al_pure rfl rfl rfl (pure_cmp rfl rfl gU gU rfl) ?_
      refine al_nil ?_
      refine awp_cond rfl (fun hc8 => ?_) (fun hc8 => ?_)
      · try simp only [nn, Fm.rows_len, Fd.rows_len] at hc8
        refine awp_skip ?_
        refine awp_seq ?_
        refine awp_block ?_
        refine awp_region ?_
        refine al_do rfl (does_take (.inl rfl) rfl rfl rfl) ?_
        refine al_pure rfl rfl rfl (pure_move rfl gU) ?_
        refine al_pure rfl rfl rfl (pure_convInt rfl gU ⟨_, Tryd.underlying3⟩ (Tryd.underlying5) (IntWalk.u8_in _ (by omega))) ?_
        refine al_buildSlice (xs := [_]) rfl rfl rfl rfl rfl rfl rfl rfl rfl gU rfl ?_
        refine al_do rfl (does_append rfl rfl rfl rfl rfl rfl rfl (by rw [bytesR_len, rngP_len]; simp; omega) (by rw [bytesR_len, rngP_len]; simp; omega)) ?_
        refine al_do rfl (does_take (.inr rfl) rfl rfl rfl) ?_
        refine al_nil ?_
        refine awp_sub (s := { t := [(10, _, _), (12, _, _), (13, _, _)], bx := [], ow := [((.t 12), _)] }) (sub_mk (⟨sx rfl, ⟨sx rfl, ⟨sx rfl, trivial⟩⟩⟩) trivial (⟨rfl, trivial⟩)) ?_
        refine awp_region ?_
        refine al_pure rfl rfl rfl (pure_move rfl gU) ?_
        refine al_pure rfl rfl rfl (pure_arith rfl rfl gU gU rfl (IntWalk.i64_in _ (by omega))) ?_
        refine al_pure rfl rfl rfl (pure_assign rfl gU) ?_
        refine al_nil ?_
        refine ⟨k + 1, ?_, ?_, sub_mk (⟨⟨_, rfl, ?_⟩, ⟨⟨_, rfl, ?_⟩, ⟨sx rfl, trivial⟩⟩⟩) trivial (⟨rfl, trivial⟩)⟩
        · omega
        · omega
        · exact tx (xi_eq (by omega))
        · exact tx (xbs_rng rfl p1 (by omega))
      · try simp only [nn, Fm.rows_len, Fd.rows_len] at hc8
        have hk : k = (p.2 + 1 - p.1).toNat := by omega
        refine awp_exit ?_
        repeat (first | refine thenS_exit ?_ | refine blockS_hit ?_ | refine blockS_miss rfl ?_)
        refine awp_seq (awp_region ?_)
        refine al_do rfl (does_take (.inl rfl) rfl rfl rfl) ?_
        refine al_do rfl (does_take (.inr rfl) rfl rfl rfl) ?_
        refine al_pure rfl rfl rfl (pure_assign rfl gU) ?_
        refine al_nil ?_
        refine awp_ret ?_
        repeat (first | refine tR ?_ | refine bR ?_)
        refine ret_ok rfl ?_ trivial
        (rw [rngE, ← hk]; rfl)
end Go.Proofs.YthfoclblmdnckaaDoor
/- Contracts: first bytes, of the reference. -/
set_option linter.unusedVariables false
set_option linter.unusedSimpArgs false
namespace Go.Proofs.YthfoclblmdnckaaDoor
open Go Go.Abs
theorem Plain1.fds {t : List Fm} {l : List Fd} (h : Plain1 l) : Fds t l := ⟨h.len, fun k hk => (h.ok k hk).1, fun k hk h5 => absurd h5 (h.ok k hk).2.1⟩
theorem bndT_plain {t : List Fm} {n : Int} (h : Plain1 (fmAt t n).fields) : bndT t n = bnd0 t n := by
  unfold bndT bnd0
  exact bndL_plain fun k hk => (h.ok k hk).2.1
theorem possible_spec (t : List Fm) (i x : Int) (hi : 0 ≤ i ∧ i < t.length) (h : Plain1 (fmAt t i).fields) : Ctr sys 44 [xtab t, xi i, xi x] [] (xb (decide ((bnd0 t i).1 ≤ x) && decide (x ≤ (bnd0 t i).2))) none [] := by
  have hl := rlen_spec t i hi h.fds
  rw [bndT_plain h] at hl
  refine spec_intro Tryd.func44 rfl rfl rfl rfl rfl rfl ?_
  refine awp_seq (awp_region ?_)
  refine al_pure rfl rfl rfl (pure_assign rfl gU) ?_
  refine al_nil ?_
  refine awp_seq (awp_region ?_)
  refine al_pure rfl rfl rfl (pure_move rfl gU) ?_
  refine al_pure rfl rfl rfl (pure_move rfl gU) ?_
  refine al_call rfl rfl rfl rfl rfl rfl gU gU (hl) rfl ?_
  refine al_pure rfl rfl rfl (pure_move rfl gU) ?_
  refine al_pure rfl rfl rfl (pure_extract rfl gU rfl) ?_
  refine al_pure rfl rfl rfl (pure_extract rfl gU rfl) ?_
  refine al_pure rfl rfl rfl (pure_assign rfl gU) ?_
  refine al_pure rfl rfl rfl (pure_assign rfl gU) ?_
  refine al_nil ?_
  refine awp_sub (s := { t := [(2, _, _), (7, _, _), (8, _, _)], bx := [], ow := [] }) (sub_mk (⟨sx rfl, ⟨sx rfl, ⟨sx rfl, trivial⟩⟩⟩) trivial trivial) ?_
  refine awp_seq (awp_region ?_)
  refine al_pure rfl rfl rfl (pure_move rfl gU) ?_
  refine al_pure rfl rfl rfl (pure_move rfl gU) ?_
  refine al_pure rfl rfl rfl (pure_cmp rfl rfl gU gU rfl) ?_
  refine al_pure rfl rfl rfl (pure_move rfl gU) ?_
  refine al_pure rfl rfl rfl (pure_move rfl gU) ?_
  refine al_pure rfl rfl rfl (pure_move rfl gU) ?_
  refine al_pure rfl rfl rfl (pure_cmp rfl rfl (fun hh => hh) (fun hh => hh) rfl) ?_
  refine al_pure rfl rfl rfl (pure_and rfl rfl gU (fun _ hi => gP rfl hi)) ?_
  refine al_pure rfl rfl rfl (pure_assign rfl gU) ?_
  refine al_nil ?_
  refine awp_ret ?_
  repeat (first | refine tR ?_ | refine bR ?_)
  refine ret_ok rfl ?_ trivial
  rfl
def fstK (p : Int × Int) : St := { t := [(8, true, xi p.1), (9, true, xi p.2)], bx := [], ow := [] }
theorem rFirst_spec (t : List Fm) (i : Int) : Ctr sys 17 [xtab t, xi i] [] (xbe (firstE t i)) none [] := by
  have hrl := Fm.rows_len t
  refine spec_intro Tryd.func17 rfl rfl rfl rfl rfl rfl ?_
  refine awp_seq (awp_region ?_)
  refine al_do rfl (does_nil (.inr rfl) rfl rfl) ?_
  refine al_pure rfl rfl rfl (pure_assign rfl gU) ?_
  refine al_nil ?_
  refine awp_seq ?_
  refine awp_seq (awp_region ?_)
  refine al_pure rfl rfl rfl (pure_move rfl gU) ?_
  refine al_pure rfl rfl rfl (pure_move rfl gU) ?_
  refine al_call rfl rfl rfl rfl rfl rfl gU gU (rError_spec _ _) rfl ?_
  refine al_pure rfl rfl rfl (pure_assign rfl gU) ?_
  refine al_nil ?_
  refine awp_sub (s := { t := [(0, _, _), (1, _, _), (6, _, _)], bx := [], ow := [] }) (sub_mk (⟨sx rfl, ⟨sx rfl, ⟨sx rfl, trivial⟩⟩⟩) trivial trivial) ?_
  refine awp_seq (awp_region ?_)
  refine al_pure rfl rfl rfl (pure_move rfl gU) ?_
  refine al_pure rfl rfl rfl (pure_cmp rfl rfl gU gU rfl) ?_
  refine al_nil ?_
  refine awp_cond rfl (fun hc => ?_) (fun hc => ?_)
  · try simp only [nn, Fm.rows_len, Fd.rows_len] at hc
    have h1 : firstE t i = ([], errE t i) := by rw [firstE, if_pos hc]
    rw [h1]
    refine awp_seq (awp_region ?_)
    refine al_pure rfl rfl rfl (pure_move rfl gU) ?_
    refine al_do rfl (does_nil (.inr rfl) rfl rfl) ?_
    refine al_pure rfl rfl rfl (pure_assign rfl gU) ?_
    refine al_nil ?_
    refine awp_ret ?_
    repeat (first | refine tR ?_ | refine bR ?_)
    refine ret_ok rfl ?_ trivial
    rfl
  · try simp only [nn, Fm.rows_len, Fd.rows_len] at hc
    obtain ⟨hv, hi0, hi1⟩ := errE_zero hc
    have hnf := hv.nf i.toNat (by omega)
    have hrf := Fd.rows_len (t.getD i.toNat default).fields
    have hok := hv.fdOk (i := i.toNat) (by omega) (k := 0) (by omega)
    have hnest := (hv.fds (i := i.toNat) (by omega)).nest 0 (by omega)
    have hlh := lohi_ok (i := i.toNat) hv (by omega)
    obtain ⟨hk1, hk2, hk3, hk4, hk5, hk6, hk8⟩ := hok
    have hu := (((t.getD i.toNat default).fields.getD 0 default).bytes.getD 0 0).toNat_lt
    have h1 : firstE t i = (rngE (lohi t ((t.getD i.toNat default).fields.getD 0 default)), 0) := by rw [firstE, if_neg (by omega)]
    rw [h1]
    have hbl : ((t.getD i.toNat default).fields.getD 0 default).kind = 1 → 1 ≤ ((t.getD i.toNat default).fields.getD 0 default).bytes.length := fun hk => by
      obtain ⟨_, hr, _⟩ := fieldE_rng (hv.fd i.toNat (by omega) 0 (by omega))
      unfold rangeB at hr
      rw [if_pos hk] at hr
      simp only [Bool.and_eq_true, decide_eq_true_eq] at hr
      exact hr.1
    refine awp_skip ?_
    refine awp_seq (awp_region ?_)
    refine al_pure rfl rfl rfl (pure_move rfl gU) ?_
    refine al_pure rfl rfl rfl (pure_move rfl gU) ?_
    refine al_pure rfl rfl rfl (pure_indexAddr (j := i.toNat) rfl rfl gU gU rfl rfl (by first | omega | (simp at hh; omega)) (fun hh => Fm.rows_at (by first | omega | (simp at hh; omega)))) ?_
    refine al_pure rfl rfl rfl (pure_fieldRo rfl gU rfl rfl) ?_
    refine al_pure rfl rfl rfl (pure_loadRo rfl gU rfl rfl rfl) ?_
    refine al_pure rfl rfl rfl (pure_indexAddr (j := 0) rfl rfl gU gU rfl rfl (by first | omega | (simp at hh; omega)) (fun hh => Fd.rows_at (by first | omega | (simp at hh; omega)))) ?_
    refine al_pure rfl rfl rfl (pure_loadRoRow rfl gU rfl rfl rfl rfl) ?_
    refine al_do rfl (does_alloc rfl rfl rfl) ?_
    refine al_do rfl (does_store rfl rfl rfl rfl rfl rfl rfl) ?_
    refine al_nil ?_
    refine awp_sub (s := { t := [(0, _, _), (7, _, _)], bx := [((.l 7), _)], ow := [] }) (sub_mk (⟨sx rfl, ⟨sx rfl, trivial⟩⟩) (⟨sx rfl, trivial⟩) trivial) ?_
    refine awp_seq (awp_region ?_)
    refine al_pure rfl rfl rfl (pure_assign rfl gU) ?_
    refine al_pure rfl rfl rfl (pure_assign rfl gU) ?_
    refine al_nil ?_
    refine awp_cut (fstK (lohi t ((t.getD i.toNat default).fields.getD 0 default))) (True) ?_ (fun hj => ?_)
    · refine awp_seq (awp_region ?_)
      refine al_pure rfl rfl rfl (pure_fieldPtr rfl gU rfl rfl) ?_
      refine al_pure rfl rfl rfl (pure_loadBox rfl gU rfl rfl rfl rfl) ?_
      refine al_nil ?_
      refine awp_block ?_
      refine awp_seq (awp_region ?_)
      refine al_pure rfl rfl rfl (pure_cmp rfl rfl gU gU rfl) ?_
      refine al_pure rfl rfl rfl (pure_assign rfl gU) ?_
      refine al_nil ?_
      refine awp_sub (s := { t := [(0, _, _), (7, _, _), (8, _, _), (9, _, _), (28, _, _), (29, _, _)], bx := [((.l 7), _)], ow := [] }) (sub_mk (⟨sx rfl, ⟨sx rfl, ⟨sx rfl, ⟨sx rfl, ⟨sx rfl, ⟨sx rfl, trivial⟩⟩⟩⟩⟩⟩) (⟨sx rfl, trivial⟩) trivial) ?_
      refine awp_cond rfl (fun hc2 => ?_) (fun hc2 => ?_)
      · try simp only [nn, Fm.rows_len, Fd.rows_len] at hc2
        have := hbl hc2
        refine awp_drawn' (by kernel_rfl) ?_
        refine dr_pure rfl rfl rfl rfl (pure_fieldPtr rfl gU rfl rfl) ?_
        refine dr_load rfl rfl rfl rfl rfl rfl rfl gU rfl rfl rfl rfl ?_
        refine dr_pure rfl rfl rfl rfl (pure_indexSg (j := 0) rfl rfl gU gU Tryd.underlying9 (by first | omega | (simp at hh; omega)) (fun hh => by first | omega | (simp at hh; omega))) ?_
        refine dr_pure rfl rfl rfl rfl (pure_convInt rfl gU ⟨_, Tryd.underlying5⟩ (Tryd.underlying3) (IntWalk.i64_in _ (by omega))) ?_
        refine dr_pure rfl rfl rfl rfl (pure_fieldPtr rfl gU rfl rfl) ?_
        refine dr_load rfl rfl rfl rfl rfl rfl rfl gU rfl rfl rfl rfl ?_
        refine dr_pure rfl rfl rfl rfl (pure_indexSg (j := 0) rfl rfl gU gU Tryd.underlying9 (by first | omega | (simp at hh; omega)) (fun hh => by first | omega | (simp at hh; omega))) ?_
        refine dr_pure rfl rfl rfl rfl (pure_convInt rfl gU ⟨_, Tryd.underlying5⟩ (Tryd.underlying3) (IntWalk.i64_in _ (by omega))) ?_
        refine dr_pure rfl rfl rfl rfl (pure_assign rfl gU) ?_
        refine dr_pure rfl rfl rfl rfl (pure_assign rfl gU) ?_
        refine dr_nil (by kernel_rfl) ?_
        refine ⟨trivial, sub_mk ⟨⟨_, rfl, ?_⟩, ⟨_, rfl, ?_⟩, trivial⟩ trivial trivial⟩
        all_goals exact tx (xi_eq (by rw [lohi, if_pos hc2]))
      · try simp only [nn, Fm.rows_len, Fd.rows_len] at hc2
        refine awp_seq (awp_region ?_)
        refine al_pure rfl rfl rfl (pure_cmp rfl rfl gU gU rfl) ?_
        refine al_pure rfl rfl rfl (pure_assign rfl gU) ?_
        refine al_nil ?_
        refine awp_cond rfl (fun hc3 => ?_) (fun hc3 => ?_)
        · try simp only [nn, Fm.rows_len, Fd.rows_len] at hc3
          refine awp_region ?_
          refine al_pure rfl rfl rfl (pure_fieldPtr rfl gU rfl rfl) ?_
          refine al_pure rfl rfl rfl (pure_loadBox rfl gU rfl rfl rfl rfl) ?_
          refine al_pure rfl rfl rfl (pure_assign rfl gU) ?_
          refine al_nil ?_
          refine ⟨trivial, sub_mk ⟨⟨_, rfl, ?_⟩, ⟨_, rfl, ?_⟩, trivial⟩ trivial trivial⟩
          all_goals exact tx (xi_eq (by rw [lohi, if_neg hc2, if_pos hc3]))
        · try simp only [nn, Fm.rows_len, Fd.rows_len] at hc3
          refine awp_seq (awp_region ?_)
          refine al_pure rfl rfl rfl (pure_cmp rfl rfl gU gU rfl) ?_
          refine al_pure rfl rfl rfl (pure_assign rfl gU) ?_
          refine al_nil ?_
          refine awp_cond rfl (fun hc4 => ?_) (fun hc4 => ?_)
          · try simp only [nn, Fm.rows_len, Fd.rows_len] at hc4
            refine awp_drawn' (by kernel_rfl) ?_
            refine dr_pure rfl rfl rfl rfl (pure_fieldPtr rfl gU rfl rfl) ?_
            refine dr_load rfl rfl rfl rfl rfl rfl rfl gU rfl rfl rfl rfl ?_
            refine dr_pure rfl rfl rfl rfl (pure_fieldPtr rfl gU rfl rfl) ?_
            refine dr_load rfl rfl rfl rfl rfl rfl rfl gU rfl rfl rfl rfl ?_
            refine dr_pure rfl rfl rfl rfl (pure_assign rfl gU) ?_
            refine dr_pure rfl rfl rfl rfl (pure_assign rfl gU) ?_
            refine dr_nil (by kernel_rfl) ?_
            refine ⟨trivial, sub_mk ⟨⟨_, rfl, ?_⟩, ⟨_, rfl, ?_⟩, trivial⟩ trivial trivial⟩
            all_goals exact tx (xi_eq (by rw [lohi, if_neg hc2, if_neg hc3, if_pos hc4]))
          · try simp only [nn, Fm.rows_len, Fd.rows_len] at hc4
            refine awp_seq (awp_region ?_)
            refine al_pure rfl rfl rfl (pure_cmp rfl rfl gU gU rfl) ?_
            refine al_pure rfl rfl rfl (pure_assign rfl gU) ?_
            refine al_nil ?_
            refine awp_sub (s := { t := [(0, _, _), (7, _, _), (8, _, _), (9, _, _), (28, _, _), (49, _, _)], bx := [((.l 7), _)], ow := [] }) (sub_mk (⟨sx rfl, ⟨sx rfl, ⟨sx rfl, ⟨sx rfl, ⟨sx rfl, ⟨sx rfl, trivial⟩⟩⟩⟩⟩⟩) (⟨sx rfl, trivial⟩) trivial) ?_
            refine awp_cond rfl (fun hc5 => ?_) (fun hc5 => ?_)
            · try simp only [nn, Fm.rows_len, Fd.rows_len] at hc5
              obtain ⟨hn1, hn2⟩ := hnest hc5
              have hl := rlen_spec t _ ⟨hk3.1, hn1⟩ hn2.fds
              rw [bndT_plain hn2] at hl
              have h2 : lohi t ((t.getD i.toNat default).fields.getD 0 default) = bnd0 t ((t.getD i.toNat default).fields.getD 0 default).n := by rw [lohi, if_neg hc2, if_neg hc3, if_neg hc4, if_pos hc5]
              rw [h2] at hlh ⊢
              have hps := fun x => possible_spec t _ x ⟨hk3.1, hn1⟩ hn2
              refine awp_seq (awp_region ?_)
              refine al_pure rfl rfl rfl (pure_move rfl gU) ?_
              refine al_pure rfl rfl rfl (pure_fieldPtr rfl gU rfl rfl) ?_
              refine al_pure rfl rfl rfl (pure_loadBox rfl gU rfl rfl rfl rfl) ?_
              refine al_call rfl rfl rfl rfl rfl rfl gU gU (hl) rfl ?_
              refine al_pure rfl rfl rfl (pure_move rfl gU) ?_
              refine al_pure rfl rfl rfl (pure_extract rfl gU rfl) ?_
              refine al_pure rfl rfl rfl (pure_extract rfl gU rfl) ?_
              refine al_pure rfl rfl rfl (pure_assign rfl gU) ?_
              refine al_pure rfl rfl rfl (pure_assign rfl gU) ?_
              refine al_nil ?_
              refine awp_sub (s := { t := [(0, _, _), (7, _, _), (8, _, _), (9, _, _)], bx := [((.l 7), _)], ow := [] }) (sub_mk (⟨sx rfl, ⟨sx rfl, ⟨sx rfl, ⟨sx rfl, trivial⟩⟩⟩⟩) (⟨sx rfl, trivial⟩) trivial) ?_
              refine awp_seq (awp_region ?_)
              refine al_do rfl (does_nil (.inr rfl) rfl rfl) ?_
              refine al_nil ?_
              refine awp_seq ?_
              refine awp_seq (awp_region ?_)
              refine al_pure rfl rfl rfl (pure_move rfl gU) ?_
              refine al_pure rfl rfl rfl (pure_assign rfl gU) ?_
              refine al_nil ?_
              refine awp_block ?_
              obtain ⟨p1, p2, p3⟩ := hlh
              have hpl := fun k => rngP_len (bnd0 t ((t.getD i.toNat default).fields.getD 0 default).n).1 k
              have hbr := fun k => bytesR_len (rngP (bnd0 t ((t.getD i.toNat default).fields.getD 0 default).n).1 k)
              refine awp_for (ι := Nat) { t := [(0, _, _), (7, _, _), (9, _, _)], bx := [((.l 7), _)], ow := [((.t 10), _)] } (fun k => [(11, true, xi ((bnd0 t ((t.getD i.toNat default).fields.getD 0 default).n).1 + (k : Int))), (10, true, xbs (rngP (bnd0 t ((t.getD i.toNat default).fields.getD 0 default).n).1 k))]) (fun k => []) (fun k => (bnd0 t ((t.getD i.toNat default).fields.getD 0 default).n).1 + (k : Int) ≤ (bnd0 t ((t.getD i.toNat default).fields.getD 0 default).n).2 + 1) (fun k => ((bnd0 t ((t.getD i.toNat default).fields.getD 0 default).n).2 + 1 - (bnd0 t ((t.getD i.toNat default).fields.getD 0 default).n).1 - (k : Int)).toNat) (0) (by omega) (sub_mk (⟨⟨_, rfl, by simp⟩, ⟨sx rfl, ⟨sx rfl, ⟨sx rfl, ⟨sx rfl, trivial⟩⟩⟩⟩⟩) (⟨sx rfl, trivial⟩) (⟨rfl, trivial⟩)) ?_
              intro k hok
              dsimp only [List.cons_append, List.nil_append]
              have hbk := hbr k
              have hpk := hpl k
              refine awp_seq ?_
              refine awp_seq (awp_region ?_)
              refine al_pure rfl rfl rfl (pure_move rfl gU) ?_
              refine al_pure rfl rfl rfl (pure_move rfl gU) ?_
              refine al_pure rfl rfl rfl (pure_cmp rfl rfl gU gU rfl) ?_
              refine al_nil ?_
              refine awp_cond rfl (fun hc8 => ?_) (fun hc8 => ?_)
              · try simp only [nn, Fm.rows_len, Fd.rows_len] at hc8
                refine awp_skip ?_
                refine awp_seq ?_
                refine awp_block ?_
                refine awp_seq (awp_region ?_)
                refine al_pure rfl rfl rfl (pure_move rfl gU) ?_
                refine al_pure rfl rfl rfl (pure_fieldPtr rfl gU rfl rfl) ?_
                refine al_pure rfl rfl rfl (pure_loadBox rfl gU rfl rfl rfl rfl) ?_
                refine al_pure rfl rfl rfl (pure_move rfl gU) ?_
                refine al_call rfl rfl rfl rfl rfl rfl gU gU (hps _) rfl ?_
                refine al_nil ?_
                refine awp_sub (s := { t := [(0, _, _), (7, _, _), (9, _, _), (10, _, _), (11, _, _), (68, _, _)], bx := [((.l 7), _)], ow := [((.t 10), _)] }) (sub_mk (⟨sx rfl, ⟨sx rfl, ⟨sx rfl, ⟨sx rfl, ⟨sx rfl, ⟨sx rfl, trivial⟩⟩⟩⟩⟩⟩) (⟨sx rfl, trivial⟩) (⟨rfl, trivial⟩)) ?_
                refine awp_cond rfl (fun hc9 => ?_) (fun hc9 => ?_)
                · try simp only [nn, Fm.rows_len, Fd.rows_len] at hc9
                  refine awp_region ?_
                  refine al_do rfl (does_take (.inl rfl) rfl rfl rfl) ?_
                  refine al_pure rfl rfl rfl (pure_move rfl gU) ?_
                  refine al_pure rfl rfl rfl (pure_convInt rfl gU ⟨_, Tryd.underlying3⟩ (Tryd.underlying5) (IntWalk.u8_in _ (by omega))) ?_
                  refine al_buildSlice (xs := [_]) rfl rfl rfl rfl rfl rfl rfl rfl rfl gU rfl ?_
                  refine al_do rfl (does_append rfl rfl rfl rfl rfl rfl rfl (by rw [bytesR_len, rngP_len]; simp; omega) (by rw [bytesR_len, rngP_len]; simp; omega)) ?_
                  refine al_do rfl (does_take (.inr rfl) rfl rfl rfl) ?_
                  refine al_nil ?_
                  refine awp_sub (s := { t := [(0, _, _), (7, _, _), (9, _, _), (10, _, _), (11, _, _)], bx := [((.l 7), _)], ow := [((.t 10), _)] }) (sub_mk (⟨sx rfl, ⟨sx rfl, ⟨sx rfl, ⟨sx rfl, ⟨sx rfl, trivial⟩⟩⟩⟩⟩) (⟨sx rfl, trivial⟩) (⟨rfl, trivial⟩)) ?_
                  refine awp_region ?_
                  refine al_pure rfl rfl rfl (pure_move rfl gU) ?_
                  refine al_pure rfl rfl rfl (pure_arith rfl rfl gU gU rfl (IntWalk.i64_in _ (by omega))) ?_
                  refine al_pure rfl rfl rfl (pure_assign rfl gU) ?_
                  refine al_nil ?_
                  refine ⟨k + 1, ?_, ?_, sub_mk (⟨⟨_, rfl, ?_⟩, ⟨⟨_, rfl, ?_⟩, ⟨sx rfl, ⟨sx rfl, ⟨sx rfl, trivial⟩⟩⟩⟩⟩) (⟨sx rfl, trivial⟩) (⟨rfl, trivial⟩)⟩
                  · omega
                  · omega
                  · exact tx (xi_eq (by omega))
                  · exact tx (xbs_rng rfl p1 (by omega))
                · try simp only [nn, Fm.rows_len, Fd.rows_len] at hc9
                  exfalso; omega
              · try simp only [nn, Fm.rows_len, Fd.rows_len] at hc8
                have hk : k = ((bnd0 t ((t.getD i.toNat default).fields.getD 0 default).n).2 + 1 - (bnd0 t ((t.getD i.toNat default).fields.getD 0 default).n).1).toNat := by omega
                refine awp_exit ?_
                repeat (first | refine thenS_exit ?_ | refine blockS_hit ?_ | refine blockS_miss rfl ?_)
                refine awp_seq (awp_region ?_)
                refine al_do rfl (does_take (.inl rfl) rfl rfl rfl) ?_
                refine al_do rfl (does_take (.inr rfl) rfl rfl rfl) ?_
                refine al_pure rfl rfl rfl (pure_assign rfl gU) ?_
                refine al_nil ?_
                refine awp_ret ?_
                repeat (first | refine tR ?_ | refine bR ?_)
                refine ret_ok rfl ?_ trivial
                (rw [rngE, ← hk]; rfl)
            · try simp only [nn, Fm.rows_len, Fd.rows_len] at hc5
              refine awp_seq (awp_region ?_)
              refine al_pure rfl rfl rfl (pure_cmp rfl rfl gU gU rfl) ?_
              refine al_pure rfl rfl rfl (pure_assign rfl gU) ?_
              refine al_nil ?_
              refine awp_cond rfl (fun hc6 => ?_) (fun hc6 => ?_)
              · try simp only [nn, Fm.rows_len, Fd.rows_len] at hc6
                refine awp_seq (awp_region ?_)
                refine al_pure rfl rfl rfl (pure_fieldPtr rfl gU rfl rfl) ?_
                refine al_pure rfl rfl rfl (pure_loadBox rfl gU rfl rfl rfl rfl) ?_
                refine al_pure rfl rfl rfl (pure_cmp rfl rfl gU gU rfl) ?_
                refine al_nil ?_
                refine awp_sub (s := { t := [(8, _, _), (9, _, _), (79, _, _)], bx := [], ow := [] }) (sub_mk (⟨sx rfl, ⟨sx rfl, ⟨sx rfl, trivial⟩⟩⟩) trivial trivial) ?_
                refine awp_cond rfl (fun hc7 => ?_) (fun hc7 => ?_)
                · try simp only [nn, Fm.rows_len, Fd.rows_len] at hc7
                  have h2 : lohi t ((t.getD i.toNat default).fields.getD 0 default) = (0, -1) := by rw [lohi, if_neg hc2, if_neg hc3, if_neg hc4, if_neg hc5, if_pos ⟨hc6, hc7⟩]
                  rw [h2]
                  refine awp_seq (awp_region ?_)
                  refine al_do rfl (does_nil (.inr rfl) rfl rfl) ?_
                  refine al_pure rfl rfl rfl (pure_assign rfl gU) ?_
                  refine al_nil ?_
                  refine awp_ret ?_
                  repeat (first | refine tR ?_ | refine bR ?_)
                  refine ret_ok rfl ?_ trivial
                  rfl
                · try simp only [nn, Fm.rows_len, Fd.rows_len] at hc7
                  refine awp_skip ?_
                  refine ⟨trivial, sub_mk ⟨⟨_, rfl, ?_⟩, ⟨_, rfl, ?_⟩, trivial⟩ trivial trivial⟩
                  all_goals exact tx (xi_eq (by rw [lohi, if_neg hc2, if_neg hc3, if_neg hc4, if_neg hc5, if_neg (fun h => hc7 h.2)]))
              · try simp only [nn, Fm.rows_len, Fd.rows_len] at hc6
                refine awp_skip ?_
                refine ⟨trivial, sub_mk ⟨⟨_, rfl, ?_⟩, ⟨_, rfl, ?_⟩, trivial⟩ trivial trivial⟩
                all_goals exact tx (xi_eq (by rw [lohi, if_neg hc2, if_neg hc3, if_neg hc4, if_neg hc5, if_neg (fun h => hc6 h.1)]))
    · generalize lohi t ((t.getD i.toNat default).fields.getD 0 default) = p at hlh ⊢
      obtain ⟨p1, p2, p3⟩ := hlh
      have hpl := fun k => rngP_len p.1 k
      have hbr := fun k => bytesR_len (rngP p.1 k)
      refine awp_seq (awp_region ?_)
      refine al_do rfl (does_nil (.inr rfl) rfl rfl) ?_
      refine al_nil ?_
      refine awp_seq ?_
      refine awp_seq (awp_region ?_)
      refine al_pure rfl rfl rfl (pure_move rfl gU) ?_
      refine al_pure rfl rfl rfl (pure_assign rfl gU) ?_
      refine al_nil ?_
      refine awp_block ?_
      refine awp_for (ι := Nat) { t := [(9, _, _)], bx := [], ow := [((.t 12), _)] } (fun k => [(13, true, xi (p.1 + (k : Int))), (12, true, xbs (rngP p.1 k))]) (fun k => []) (fun k => p.1 + (k : Int) ≤ p.2 + 1) (fun k => (p.2 + 1 - p.1 - (k : Int)).toNat) (0) (by omega) (sub_mk (⟨⟨_, rfl, by simp⟩, ⟨sx rfl, ⟨sx rfl, trivial⟩⟩⟩) trivial (⟨rfl, trivial⟩)) ?_
      intro k hok
      dsimp only [List.cons_append, List.nil_append]
      have hbk := hbr k
      have hpk := hpl k
      refine awp_seq ?_
      refine awp_seq (awp_region ?_)
      refine al_pure rfl rfl rfl (pure_move rfl gU) ?_
      refine al_pure rfl rfl rfl (pure_move rfl gU) ?_
      refine al_pure rfl rfl rfl (pure_cmp rfl rfl gU gU rfl) ?_
      refine al_nil ?_
      refine awp_cond rfl (fun hc8 => ?_) (fun hc8 => ?_)
      · try simp only [nn, Fm.rows_len, Fd.rows_len] at hc8
        refine awp_skip ?_
        refine awp_seq ?_
        refine awp_block ?_
        refine awp_region ?_
        refine al_do rfl (does_take (.inl rfl) rfl rfl rfl) ?_
        refine al_pure rfl rfl rfl (pure_move rfl gU) ?_
        refine al_pure rfl rfl rfl (pure_convInt rfl gU ⟨_, Tryd.underlying3⟩ (Tryd.underlying5) (IntWalk.u8_in _ (by omega))) ?_
        refine al_buildSlice (xs := [_]) rfl rfl rfl rfl rfl rfl rfl rfl rfl gU rfl ?_
        refine al_do rfl (does_append rfl rfl rfl rfl rfl rfl rfl (by rw [bytesR_len, rngP_len]; simp; omega) (by rw [bytesR_len, rngP_len]; simp; omega)) ?_
        refine al_do rfl (does_take (.inr rfl) rfl rfl rfl) ?_
        refine al_nil ?_
        refine awp_sub (s := { t := [(9, _, _), (12, _, _), (13, _, _)], bx := [], ow := [((.t 12), _)] }) (sub_mk (⟨sx rfl, ⟨sx rfl, ⟨sx rfl, trivial⟩⟩⟩) trivial (⟨rfl, trivial⟩)) ?_
        refine awp_region ?_
        refine al_pure rfl rfl rfl (pure_move rfl gU) ?_
        refine al_pure rfl rfl rfl (pure_arith rfl rfl gU gU rfl (IntWalk.i64_in _ (by omega))) ?_
        refine al_pure rfl rfl rfl (pure_assign rfl gU) ?_
        refine al_nil ?_
        refine ⟨k + 1, ?_, ?_, sub_mk (⟨⟨_, rfl, ?_⟩, ⟨⟨_, rfl, ?_⟩, ⟨sx rfl, trivial⟩⟩⟩) trivial (⟨rfl, trivial⟩)⟩
        · omega
        · omega
        · exact tx (xi_eq (by omega))
        · exact tx (xbs_rng rfl p1 (by omega))
      · try simp only [nn, Fm.rows_len, Fd.rows_len] at hc8
        have hk : k = (p.2 + 1 - p.1).toNat := by omega
        refine awp_exit ?_
        repeat (first | refine thenS_exit ?_ | refine blockS_hit ?_ | refine blockS_miss rfl ?_)
        refine awp_seq (awp_region ?_)
        refine al_do rfl (does_take (.inl rfl) rfl rfl rfl) ?_
        refine al_do rfl (does_take (.inr rfl) rfl rfl rfl) ?_
        refine al_pure rfl rfl rfl (pure_assign rfl gU) ?_
        refine al_nil ?_
        refine awp_ret ?_
        repeat (first | refine tR ?_ | refine bR ?_)
        refine ret_ok rfl ?_ trivial
        (rw [rngE, ← hk]; rfl)
end Go.Proofs.YthfoclblmdnckaaDoor
/- Contracts: generated tables, on both sides. -/
set_option linter.unusedVariables false
set_option linter.unusedSimpArgs false
namespace Go.Proofs.YthfoclblmdnckaaDoor
open Go Go.Abs
def ffR (l : List (List Fd)) : List (List C) := l.map fun x => [.sl 5 (Fd.rows x)]
theorem ffR_len (l : List (List Fd)) : (ffR l).length = l.length := by simp [ffR]
theorem ffR_at {l : List (List Fd)} {k : Nat} (h : k < l.length) : (ffR l)[k]? = some [.sl 5 (Fd.rows (l.getD k []))] := by
  rw [ffR, List.getElem?_map, List.getD_eq_getElem?_getD, List.getElem?_eq_getElem h]; rfl
abbrev xff (l : List (List Fd)) : X := .v (.c (.sl 1 (ffR l)))
def tagF (i : Nat) : Fd := ⟨1, [1, UInt8.ofNat i], 0, 0, 0⟩
def genF (names : List (List UInt8)) (shapes : List (List Fd)) (i : Nat) : Fm := ⟨names.getD i [], tagF i :: shapes.getD i []⟩
def genT (names : List (List UInt8)) (shapes : List (List Fd)) (k : Nat) : List Fm := (List.range k).map (genF names shapes)
theorem genT_len (names : List (List UInt8)) (shapes : List (List Fd)) (k : Nat) : (genT names shapes k).length = k := by simp [genT]
theorem genT_snoc (names : List (List UInt8)) (shapes : List (List Fd)) (k : Nat) : genT names shapes (k + 1) = genT names shapes k ++ [genF names shapes k] := by simp [genT, List.range_succ]
theorem genT_get {names : List (List UInt8)} {shapes : List (List Fd)} {k i : Nat} (h : i < k) : (genT names shapes k).getD i default = genF names shapes i := by
  rw [List.getD_eq_getElem?_getD, genT, List.getElem?_map, List.getElem?_range h]; rfl
def genE (names : List (List UInt8)) (shapes : List (List Fd)) : List Fm × Int :=
  if names.length ≠ shapes.length then ([], 6) else if validE (genT names shapes names.length) ≠ 0 then ([], validE (genT names shapes names.length)) else (genT names shapes names.length, 0)
abbrev xte (p : List Fm × Int) : X := .tup [.c (.sl 2 (Fm.rows p.1)), .c (.i .i64 p.2)]
theorem tab_next {t : List Fm} {row : List C} {f : Fm} (h : row = f.cells) : X.v (.c (.sl 2 (Fm.rows t ++ [row]))) = xtab (t ++ [f]) := by rw [h]; simp [Fm.rows]
theorem gen_row {names : List (List UInt8)} {shapes : List (List Fd)} {i : Nat} {n : Int} (h : n = ((UInt8.ofNat i).toNat : Int)) (b : List UInt8) (hb : b = [1, UInt8.ofNat i]) :
    [C.s (names.getD i []), C.sl 5 ([[.i .i64 1, .s b, .i .i64 0, .i .i64 0, .i .i64 0]] ++ Fd.rows (shapes.getD i []))] = (genF names shapes i).cells := by
  subst hb; rfl
theorem by2 {i : Nat} (h : i ≤ 200) : [[C.i .u8 1], [C.i .u8 (i : Int)]] = bytesR [1, UInt8.ofNat i] := by
  have hu : (UInt8.ofNat i).toNat = i % 256 := UInt8.toNat_ofNat'
  simp only [bytesR, List.map_cons, List.map_nil, hu]
  rw [Nat.mod_eq_of_lt (by omega)]; rfl
theorem fGen_spec (names : List (List UInt8)) (shapes : List (List Fd)) (hn : names.length ≤ 12) (hf : ∀ i, i < shapes.length → (shapes.getD i []).length ≤ 12) : Ctr sys 24 [xss names, xff shapes] [] (xte (genE names shapes)) none [] := by
  have hsl := strR_len names
  have hfl := ffR_len shapes
  have hgl := genT_len names shapes
  refine spec_intro Tryd.func24 rfl rfl rfl rfl rfl rfl ?_
  refine awp_seq (awp_region ?_)
  refine al_do rfl (does_nil (.inr rfl) rfl rfl) ?_
  refine al_pure rfl rfl rfl (pure_assign rfl gU) ?_
  refine al_nil ?_
  refine awp_seq ?_
  refine awp_seq (awp_region ?_)
  refine al_pure rfl rfl rfl (pure_move rfl gU) ?_
  refine al_lenSl rfl rfl rfl rfl rfl gU rfl rfl ?_ (fun hh => by simp at hh); intro hlen
  refine al_pure rfl rfl rfl (pure_move rfl gU) ?_
  refine al_lenSl rfl rfl rfl rfl rfl gU rfl rfl ?_ (fun hh => by simp at hh); intro hlen
  refine al_pure rfl rfl rfl (pure_cmp rfl rfl gU gU rfl) ?_
  refine al_nil ?_
  refine awp_sub (s := { t := [(0, _, _), (1, _, _), (15, _, _)], bx := [], ow := [] }) (sub_mk (⟨sx rfl, ⟨sx rfl, ⟨sx rfl, trivial⟩⟩⟩) trivial trivial) ?_
  refine awp_cond rfl (fun hc => ?_) (fun hc => ?_)
  · try simp only [nn, Fm.rows_len, Fd.rows_len, strR_len, ffR_len] at hc
    refine awp_seq (awp_region ?_)
    refine al_do rfl (does_nil (.inr rfl) rfl rfl) ?_
    refine al_pure rfl rfl rfl (pure_assign rfl gU) ?_
    refine al_nil ?_
    refine awp_ret ?_
    repeat (first | refine tR ?_ | refine bR ?_)
    refine ret_ok rfl ?_ trivial
    (rw [genE, if_pos (by omega)]; rfl)
  · try simp only [nn, Fm.rows_len, Fd.rows_len, strR_len, ffR_len] at hc
    refine awp_skip ?_
    refine awp_seq (awp_region ?_)
    refine al_do rfl (does_nil (.inr rfl) rfl rfl) ?_
    refine al_nil ?_
    refine awp_seq ?_
    refine awp_seq (awp_region ?_)
    refine al_pure rfl rfl rfl (pure_move rfl gU) ?_
    refine al_lenSl rfl rfl rfl rfl rfl gU rfl rfl ?_ (fun hh => by simp at hh); intro hlen
    refine al_pure rfl rfl rfl (pure_move rfl gU) ?_
    refine al_nil ?_
    refine awp_block ?_
    refine awp_for (ι := Nat) { t := [(1, _, _), (16, _, _), (17, _, _)], bx := [], ow := [((.t 6), _)] } (fun k => [(18, true, xi (k : Int)), (6, true, xtab (genT names shapes k))]) (fun k => []) (fun k => k ≤ names.length) (fun k => names.length - k) (0) (by simp) (sub_mk (⟨sx rfl, ⟨sx rfl, ⟨sx rfl, ⟨sx rfl, ⟨sx rfl, trivial⟩⟩⟩⟩⟩) trivial (⟨rfl, trivial⟩)) ?_
    intro k hok
    dsimp only [List.cons_append, List.nil_append]
    have hgk := hgl k
    have hrk := Fm.rows_len (genT names shapes k)
    refine awp_seq (awp_region ?_)
    refine al_pure rfl rfl rfl (pure_cmp rfl rfl gU gU rfl) ?_
    refine al_nil ?_
    refine awp_seq ?_
    refine awp_cond rfl (fun hc2 => ?_) (fun hc2 => ?_)
    · try simp only [nn, Fm.rows_len, Fd.rows_len, strR_len, ffR_len] at hc2
      have hfk := hf k (by omega)
      have hfr := Fd.rows_len (shapes.getD k [])
      refine awp_skip ?_
      refine awp_seq ?_
      refine awp_block ?_
      refine awp_seq (awp_region ?_)
      refine al_pure rfl rfl rfl (pure_move rfl gU) ?_
      refine al_pure rfl rfl rfl (pure_indexAddr rfl rfl gU gU rfl rfl rfl (fun hh => strR_at (by first | omega | (simp at hh; omega)))) ?_
      refine al_pure rfl rfl rfl (pure_loadRo rfl gU rfl rfl rfl) ?_
      refine al_pure rfl rfl rfl (pure_assign rfl gU) ?_
      refine al_pure rfl rfl rfl (pure_assign rfl gU) ?_
      refine al_nil ?_
      refine awp_sub (s := { t := [(1, _, _), (6, _, _), (7, _, _), (8, _, _), (16, _, _), (17, _, _), (18, _, _)], bx := [], ow := [((.t 6), _)] }) (sub_mk (⟨sx rfl, ⟨sx rfl, ⟨sx rfl, ⟨sx rfl, ⟨sx rfl, ⟨sx rfl, ⟨sx rfl, trivial⟩⟩⟩⟩⟩⟩⟩) trivial (⟨rfl, trivial⟩)) ?_
      refine awp_seq (awp_region ?_)
      refine al_pure rfl rfl rfl (pure_move rfl gU) ?_
      refine al_pure rfl rfl rfl (pure_convInt rfl gU ⟨_, Tryd.underlying3⟩ (Tryd.underlying5) (IntWalk.u8_in _ (by omega))) ?_
      refine al_buildSlice (xs := [_, _]) rfl rfl rfl rfl rfl rfl rfl rfl rfl gU rfl ?_
      refine al_pure rfl rfl rfl (pure_bytesStr (l := [1, UInt8.ofNat k]) rfl (by exact by2 (by omega)) gU Tryd.underlying35 Tryd.underlying5 Tryd.underlying9) ?_
      refine al_pure rfl rfl rfl (pure_build rfl Tryd.underlying53 rfl gU) ?_
      refine al_buildSlice (xs := [_]) rfl rfl rfl rfl rfl rfl rfl rfl rfl gU rfl ?_
      refine al_do rfl (does_take (.inr rfl) rfl rfl rfl) ?_
      refine al_nil ?_
      refine awp_sub (s := { t := [(1, _, _), (6, _, _), (7, _, _), (8, _, _), (9, _, _), (16, _, _), (17, _, _), (18, _, _)], bx := [], ow := [((.t 6), _), ((.t 9), _)] }) (sub_mk (⟨sx rfl, ⟨sx rfl, ⟨sx rfl, ⟨sx rfl, ⟨sx rfl, ⟨sx rfl, ⟨sx rfl, ⟨sx rfl, trivial⟩⟩⟩⟩⟩⟩⟩⟩) trivial (⟨rfl, ⟨rfl, trivial⟩⟩)) ?_
      refine awp_region ?_
      refine al_do rfl (does_take (.inl rfl) rfl rfl rfl) ?_
      refine al_pure rfl rfl rfl (pure_move rfl gU) ?_
      refine al_do rfl (does_take (.inl rfl) rfl rfl rfl) ?_
      refine al_pure rfl rfl rfl (pure_move rfl gU) ?_
      refine al_pure rfl rfl rfl (pure_move rfl gU) ?_
      refine al_pure rfl rfl rfl (pure_indexAddr rfl rfl gU gU rfl rfl rfl (fun hh => ffR_at (by first | omega | (simp at hh; omega)))) ?_
      refine al_pure rfl rfl rfl (pure_loadRo rfl gU rfl rfl rfl) ?_
      refine al_do rfl (does_append rfl rfl rfl rfl rfl rfl rfl (by first | omega | (simp only [List.length_append, List.length_singleton, Fm.rows_len, Fd.rows_len, genT_len]; omega)) (by first | omega | (simp only [List.length_append, List.length_singleton, Fm.rows_len, Fd.rows_len, genT_len]; omega))) ?_
      refine al_pure rfl rfl rfl (pure_build rfl Tryd.underlying47 rfl gU) ?_
      refine al_buildSlice (xs := [_]) rfl rfl rfl rfl rfl rfl rfl rfl rfl gU rfl ?_
      refine al_do rfl (does_append rfl rfl rfl rfl rfl rfl rfl (by first | omega | (simp only [List.length_append, List.length_singleton, Fm.rows_len, Fd.rows_len, genT_len]; omega)) (by first | omega | (simp only [List.length_append, List.length_singleton, Fm.rows_len, Fd.rows_len, genT_len]; omega))) ?_
      refine al_do rfl (does_take (.inr rfl) rfl rfl rfl) ?_
      refine al_nil ?_
      refine awp_sub (s := { t := [(1, _, _), (6, _, _), (16, _, _), (17, _, _), (18, _, _)], bx := [], ow := [((.t 6), _)] }) (sub_mk (⟨sx rfl, ⟨sx rfl, ⟨sx rfl, ⟨sx rfl, ⟨sx rfl, trivial⟩⟩⟩⟩⟩) trivial (⟨rfl, trivial⟩)) ?_
      refine awp_region ?_
      refine al_pure rfl rfl rfl (pure_arith rfl rfl gU gU rfl (IntWalk.i64_in _ (by omega))) ?_
      refine al_pure rfl rfl rfl (pure_move rfl gU) ?_
      refine al_nil ?_
      refine ⟨k + 1, ?_, ?_, sub_mk (⟨⟨_, rfl, ?_⟩, ⟨⟨_, rfl, ?_⟩, ⟨sx rfl, ⟨sx rfl, ⟨sx rfl, trivial⟩⟩⟩⟩⟩) trivial (⟨rfl, trivial⟩)⟩
      · omega
      · omega
      · rfl
      · exact tx ((tab_next (t := genT names shapes k) (f := genF names shapes k) rfl).trans (congrArg xtab (genT_snoc names shapes k).symm))
    · try simp only [nn, Fm.rows_len, Fd.rows_len, strR_len, ffR_len] at hc2
      have hk : k = names.length := by omega
      subst hk
      refine awp_exit ?_
      repeat (first | refine thenS_exit ?_ | refine blockS_hit ?_ | refine blockS_miss rfl ?_)
      refine awp_seq ?_
      refine awp_seq (awp_region ?_)
      refine al_pure rfl rfl rfl (pure_move rfl gU) ?_
      refine al_call rfl rfl rfl rfl rfl rfl gU gU (fValid_spec _) rfl ?_
      refine al_pure rfl rfl rfl (pure_assign rfl gU) ?_
      refine al_nil ?_
      refine awp_seq (awp_region ?_)
      refine al_pure rfl rfl rfl (pure_move rfl gU) ?_
      refine al_pure rfl rfl rfl (pure_cmp rfl rfl gU gU rfl) ?_
      refine al_nil ?_
      refine awp_sub (s := { t := [(6, _, _), (10, _, _), (44, _, _)], bx := [], ow := [((.t 6), _)] }) (sub_mk (⟨sx rfl, ⟨sx rfl, ⟨sx rfl, trivial⟩⟩⟩) trivial (⟨rfl, trivial⟩)) ?_
      refine awp_cond rfl (fun hc3 => ?_) (fun hc3 => ?_)
      · try simp only [nn, Fm.rows_len, Fd.rows_len, strR_len, ffR_len] at hc3
        refine awp_seq (awp_region ?_)
        refine al_pure rfl rfl rfl (pure_move rfl gU) ?_
        refine al_do rfl (does_nil (.inr rfl) rfl rfl) ?_
        refine al_pure rfl rfl rfl (pure_assign rfl gU) ?_
        refine al_nil ?_
        refine awp_ret ?_
        repeat (first | refine tR ?_ | refine bR ?_)
        refine ret_ok rfl ?_ trivial
        (rw [genE, if_neg (by omega), if_pos hc3]; rfl)
      · try simp only [nn, Fm.rows_len, Fd.rows_len, strR_len, ffR_len] at hc3
        refine awp_skip ?_
        refine awp_seq (awp_region ?_)
        refine al_do rfl (does_take (.inl rfl) rfl rfl rfl) ?_
        refine al_do rfl (does_take (.inr rfl) rfl rfl rfl) ?_
        refine al_pure rfl rfl rfl (pure_assign rfl gU) ?_
        refine al_nil ?_
        refine awp_ret ?_
        repeat (first | refine tR ?_ | refine bR ?_)
        refine ret_ok rfl ?_ trivial
        (rw [genE, if_neg (by omega), if_neg (by omega)]; rfl)
theorem rGen_spec (names : List (List UInt8)) (shapes : List (List Fd)) (hn : names.length ≤ 12) (hf : ∀ i, i < shapes.length → (shapes.getD i []).length ≤ 12) : Ctr sys 25 [xss names, xff shapes] [] (xte (genE names shapes)) none [] := by
  have hsl := strR_len names
  have hfl := ffR_len shapes
  have hgl := genT_len names shapes
  refine spec_intro Tryd.func25 rfl rfl rfl rfl rfl rfl ?_
  refine awp_seq (awp_region ?_)
  refine al_do rfl (does_nil (.inr rfl) rfl rfl) ?_
  refine al_pure rfl rfl rfl (pure_assign rfl gU) ?_
  refine al_nil ?_
  refine awp_seq ?_
  refine awp_seq (awp_region ?_)
  refine al_pure rfl rfl rfl (pure_move rfl gU) ?_
  refine al_lenSl rfl rfl rfl rfl rfl gU rfl rfl ?_ (fun hh => by simp at hh); intro hlen
  refine al_pure rfl rfl rfl (pure_move rfl gU) ?_
  refine al_lenSl rfl rfl rfl rfl rfl gU rfl rfl ?_ (fun hh => by simp at hh); intro hlen
  refine al_pure rfl rfl rfl (pure_cmp rfl rfl gU gU rfl) ?_
  refine al_nil ?_
  refine awp_sub (s := { t := [(0, _, _), (1, _, _), (14, _, _)], bx := [], ow := [] }) (sub_mk (⟨sx rfl, ⟨sx rfl, ⟨sx rfl, trivial⟩⟩⟩) trivial trivial) ?_
  refine awp_cond rfl (fun hc => ?_) (fun hc => ?_)
  · try simp only [nn, Fm.rows_len, Fd.rows_len, strR_len, ffR_len] at hc
    refine awp_seq (awp_region ?_)
    refine al_do rfl (does_nil (.inr rfl) rfl rfl) ?_
    refine al_pure rfl rfl rfl (pure_assign rfl gU) ?_
    refine al_nil ?_
    refine awp_ret ?_
    repeat (first | refine tR ?_ | refine bR ?_)
    refine ret_ok rfl ?_ trivial
    (rw [genE, if_pos (by omega)]; rfl)
  · try simp only [nn, Fm.rows_len, Fd.rows_len, strR_len, ffR_len] at hc
    refine awp_skip ?_
    refine awp_seq (awp_region ?_)
    refine al_do rfl (does_nil (.inr rfl) rfl rfl) ?_
    refine al_nil ?_
    refine awp_seq ?_
    refine awp_seq (awp_region ?_)
    refine al_pure rfl rfl rfl (pure_assign rfl gU) ?_
    refine al_nil ?_
    refine awp_block ?_
    refine awp_for (ι := Nat) { t := [(0, _, _), (1, _, _)], bx := [], ow := [((.t 6), _)] } (fun k => [(7, true, xi (k : Int)), (6, true, xtab (genT names shapes k))]) (fun k => []) (fun k => k ≤ names.length) (fun k => names.length - k) (0) (by simp) (sub_mk (⟨sx rfl, ⟨sx rfl, ⟨sx rfl, ⟨sx rfl, trivial⟩⟩⟩⟩) trivial (⟨rfl, trivial⟩)) ?_
    intro k hok
    dsimp only [List.cons_append, List.nil_append]
    have hgk := hgl k
    have hrk := Fm.rows_len (genT names shapes k)
    refine awp_seq ?_
    refine awp_seq (awp_region ?_)
    refine al_pure rfl rfl rfl (pure_move rfl gU) ?_
    refine al_pure rfl rfl rfl (pure_move rfl gU) ?_
    refine al_lenSl rfl rfl rfl rfl rfl gU rfl rfl ?_ (fun hh => by simp at hh); intro hlen
    refine al_pure rfl rfl rfl (pure_cmp rfl rfl gU gU rfl) ?_
    refine al_nil ?_
    refine awp_cond rfl (fun hc2 => ?_) (fun hc2 => ?_)
    · try simp only [nn, Fm.rows_len, Fd.rows_len, strR_len, ffR_len] at hc2
      have hfk := hf k (by omega)
      have hfr := Fd.rows_len (shapes.getD k [])
      refine awp_skip ?_
      refine awp_seq ?_
      refine awp_block ?_
      refine awp_seq (awp_region ?_)
      refine al_pure rfl rfl rfl (pure_move rfl gU) ?_
      refine al_pure rfl rfl rfl (pure_convInt rfl gU ⟨_, Tryd.underlying3⟩ (Tryd.underlying5) (IntWalk.u8_in _ (by omega))) ?_
      refine al_buildSlice (xs := [_, _]) rfl rfl rfl rfl rfl rfl rfl rfl rfl gU rfl ?_
      refine al_pure rfl rfl rfl (pure_bytesStr (l := [1, UInt8.ofNat k]) rfl (by exact by2 (by omega)) gU Tryd.underlying35 Tryd.underlying5 Tryd.underlying9) ?_
      refine al_pure rfl rfl rfl (pure_build rfl Tryd.underlying53 rfl gU) ?_
      refine al_do rfl (does_alloc rfl rfl rfl) ?_
      refine al_do rfl (does_store rfl rfl rfl rfl rfl rfl rfl) ?_
      refine al_nil ?_
      refine awp_sub (s := { t := [(0, _, _), (1, _, _), (6, _, _), (7, _, _), (8, _, _)], bx := [((.l 8), _)], ow := [((.t 6), _)] }) (sub_mk (⟨sx rfl, ⟨sx rfl, ⟨sx rfl, ⟨sx rfl, ⟨sx rfl, trivial⟩⟩⟩⟩⟩) (⟨sx rfl, trivial⟩) (⟨rfl, trivial⟩)) ?_
      refine awp_drawn' (by kernel_rfl) ?_
      refine dr_take rfl (.inl rfl) rfl rfl rfl rfl rfl ?_
      refine dr_pure rfl rfl rfl rfl (pure_move rfl gU) ?_
      refine dr_pure rfl rfl rfl rfl (pure_move rfl gU) ?_
      refine dr_pure rfl rfl rfl rfl (pure_indexAddr rfl rfl gU gU rfl rfl rfl (fun hh => strR_at (by first | omega | (simp at hh; omega)))) ?_
      refine dr_pure rfl rfl rfl rfl (pure_loadRo rfl gU rfl rfl rfl) ?_
      refine dr_loadRow rfl rfl rfl rfl rfl rfl rfl gU rfl rfl rfl rfl rfl ?_
      refine dr_build (xs := [_]) rfl rfl rfl rfl rfl rfl rfl rfl rfl rfl gU rfl ?_
      refine dr_pure rfl rfl rfl rfl (pure_move rfl gU) ?_
      refine dr_pure rfl rfl rfl rfl (pure_move rfl gU) ?_
      refine dr_pure rfl rfl rfl rfl (pure_indexAddr rfl rfl gU gU rfl rfl rfl (fun hh => ffR_at (by first | omega | (simp at hh; omega)))) ?_
      refine dr_pure rfl rfl rfl rfl (pure_loadRo rfl gU rfl rfl rfl) ?_
      refine dr_append rfl rfl rfl rfl rfl rfl rfl rfl rfl rfl rfl (by first | omega | (simp only [List.length_append, List.length_singleton, Fm.rows_len, Fd.rows_len, genT_len]; omega)) (by first | omega | (simp only [List.length_append, List.length_singleton, Fm.rows_len, Fd.rows_len, genT_len]; omega)) ?_
      refine dr_pure rfl rfl rfl rfl (pure_build rfl Tryd.underlying47 rfl gU) ?_
      refine dr_build (xs := [_]) rfl rfl rfl rfl rfl rfl rfl rfl rfl rfl gU rfl ?_
      refine dr_append rfl rfl rfl rfl rfl (rko (ak2 rfl (ak rfl (ak2 rfl (ak rfl (ak rfl (ak rfl (ak rfl (ak2 rfl (ak rfl (ak rfl (ak rfl (ak rfl (ak rfl (rfl))))))))))))))) rfl rfl rfl rfl rfl (by first | omega | (simp only [List.length_append, List.length_singleton, Fm.rows_len, Fd.rows_len, genT_len]; omega)) (by first | omega | (simp only [List.length_append, List.length_singleton, Fm.rows_len, Fd.rows_len, genT_len]; omega)) ?_
      refine dr_take rfl (.inr rfl) rfl rfl rfl rfl rfl ?_
      refine dr_nil (by kernel_rfl) ?_
      refine awp_sub (s := { t := [(0, _, _), (1, _, _), (6, _, _), (7, _, _)], bx := [], ow := [((.t 6), _)] }) (sub_mk (⟨sx rfl, ⟨sx rfl, ⟨sx rfl, ⟨sx rfl, trivial⟩⟩⟩⟩) trivial (⟨rfl, trivial⟩)) ?_
      refine awp_region ?_
      refine al_pure rfl rfl rfl (pure_move rfl gU) ?_
      refine al_pure rfl rfl rfl (pure_arith rfl rfl gU gU rfl (IntWalk.i64_in _ (by omega))) ?_
      refine al_pure rfl rfl rfl (pure_assign rfl gU) ?_
      refine al_nil ?_
      refine ⟨k + 1, ?_, ?_, sub_mk (⟨⟨_, rfl, ?_⟩, ⟨⟨_, rfl, ?_⟩, ⟨sx rfl, ⟨sx rfl, trivial⟩⟩⟩⟩) trivial (⟨rfl, trivial⟩)⟩
      · omega
      · omega
      · rfl
      · exact tx ((tab_next (t := genT names shapes k) (f := genF names shapes k) rfl).trans (congrArg xtab (genT_snoc names shapes k).symm))
    · try simp only [nn, Fm.rows_len, Fd.rows_len, strR_len, ffR_len] at hc2
      have hk : k = names.length := by omega
      subst hk
      refine awp_exit ?_
      repeat (first | refine thenS_exit ?_ | refine blockS_hit ?_ | refine blockS_miss rfl ?_)
      refine awp_seq ?_
      refine awp_seq (awp_region ?_)
      refine al_pure rfl rfl rfl (pure_move rfl gU) ?_
      refine al_call rfl rfl rfl rfl rfl rfl gU gU (rValid_spec _) rfl ?_
      refine al_pure rfl rfl rfl (pure_assign rfl gU) ?_
      refine al_nil ?_
      refine awp_sub (s := { t := [(6, _, _), (9, _, _)], bx := [], ow := [((.t 6), _)] }) (sub_mk (⟨sx rfl, ⟨sx rfl, trivial⟩⟩) trivial (⟨rfl, trivial⟩)) ?_
      refine awp_seq (awp_region ?_)
      refine al_pure rfl rfl rfl (pure_move rfl gU) ?_
      refine al_pure rfl rfl rfl (pure_cmp rfl rfl gU gU rfl) ?_
      refine al_nil ?_
      refine awp_cond rfl (fun hc3 => ?_) (fun hc3 => ?_)
      · try simp only [nn, Fm.rows_len, Fd.rows_len, strR_len, ffR_len] at hc3
        refine awp_seq (awp_region ?_)
        refine al_pure rfl rfl rfl (pure_move rfl gU) ?_
        refine al_do rfl (does_nil (.inr rfl) rfl rfl) ?_
        refine al_pure rfl rfl rfl (pure_assign rfl gU) ?_
        refine al_nil ?_
        refine awp_ret ?_
        repeat (first | refine tR ?_ | refine bR ?_)
        refine ret_ok rfl ?_ trivial
        (rw [genE, if_neg (by omega), if_pos hc3]; rfl)
      · try simp only [nn, Fm.rows_len, Fd.rows_len, strR_len, ffR_len] at hc3
        refine awp_skip ?_
        refine awp_seq (awp_region ?_)
        refine al_do rfl (does_take (.inl rfl) rfl rfl rfl) ?_
        refine al_do rfl (does_take (.inr rfl) rfl rfl rfl) ?_
        refine al_pure rfl rfl rfl (pure_assign rfl gU) ?_
        refine al_nil ?_
        refine awp_ret ?_
        repeat (first | refine tR ?_ | refine bR ?_)
        refine ret_ok rfl ?_ trivial
        (rw [genE, if_neg (by omega), if_neg (by omega)]; rfl)
theorem gen_tagged {names : List (List UInt8)} {shapes : List (List Fd)} (h : (genE names shapes).2 = 0) : taggedB (genE names shapes).1 = true := by
  unfold genE at h ⊢
  split at h
  · simp at h
  · rename_i h1
    rw [if_neg h1]
    split at h
    · rename_i h2; exact absurd h h2
    · rename_i h2
      rw [if_neg h2]
      have hv : validE (genT names shapes names.length) = 0 := by omega
      have hl := (Tab.of hv).len
      rw [genT_len] at hl
      refine tagged_true ⟨hv, fun i hi => ?_⟩
      rw [genT_len] at hi
      have e : ∀ j, j < names.length → f0 (genT names shapes names.length) j = tagF j := fun j hj => by
        show ((genT names shapes names.length).getD j default).fields.getD 0 default = _
        rw [genT_get hj]; rfl
      refine ⟨by rw [e i hi]; rfl, fun k hk => ⟨by rw [e i hi, e k (by omega)]; rfl, fun q => ?_⟩⟩
      rw [e i hi, e k (by omega)] at q
      have q : [1, UInt8.ofNat i] = [1, UInt8.ofNat k] := q
      simp only [List.cons.injEq, and_true, true_and] at q
      have q2 := congrArg UInt8.toNat q
      rw [UInt8.toNat_ofNat', UInt8.toNat_ofNat'] at q2
      omega
end Go.Proofs.YthfoclblmdnckaaDoor
/- Texts of tables: what they are (plain); digits on both sides. -/
set_option linter.unusedVariables false
set_option linter.unusedSimpArgs false
namespace Go.Proofs.YthfoclblmdnckaaDoor
open Go Go.Abs
/-- The digits. -/
def hexs : List UInt8 := [48, 49, 50, 51, 52, 53, 54, 55, 56, 57, 97, 98, 99, 100, 101, 102]
def hexE : List UInt8 → List UInt8
  | [] => []
  | b :: l => hexs.getD (b.toNat / 16) 0 :: hexs.getD (b.toNat % 16) 0 :: hexE l
theorem hexE_len : ∀ l : List UInt8, (hexE l).length = 2 * l.length
  | [] => rfl
  | b :: l => by simp only [hexE, List.length_cons, hexE_len l]; omega
theorem hexE_snoc : ∀ (l : List UInt8) (b : UInt8), hexE (l ++ [b]) = hexE l ++ [hexs.getD (b.toNat / 16) 0, hexs.getD (b.toNat % 16) 0]
  | [], b => rfl
  | c :: l, b => by simp only [List.cons_append, hexE, hexE_snoc l]
theorem hexE_take {l : List UInt8} {k : Nat} (h : k < l.length) : hexE (l.take (k + 1)) = hexE (l.take k) ++ [hexs.getD ((l.getD k 0).toNat / 16) 0, hexs.getD ((l.getD k 0).toNat % 16) 0] := by
  rw [take_getD (d := 0) h, hexE_snoc]
abbrev decN (n : Int) : List UInt8 := Lib.decDigits n.toNat
def txtF (t : List Fm) (f : Fd) : List UInt8 :=
  if f.kind = 1 then [116, 97, 103, 32] ++ hexE f.bytes else if f.kind = 2 then [102, 105, 120, 101, 100, 32] ++ decN f.n else if f.kind = 3 then [98, 121, 116, 101, 115, 32] ++ decN f.n
  else if f.kind = 4 then [110, 117, 109, 98, 101, 114, 32] ++ decN f.low ++ [32] ++ decN f.high else if f.kind = 5 then [110, 101, 115, 116, 101, 100, 32] ++ (fmAt t f.n).name else [114, 101, 115, 116, 32] ++ decN f.low ++ [32] ++ decN f.high
def lineF (t : List Fm) (f : Fm) : List UInt8 := f.name ++ [58, 32] ++ Lib.join (f.fields.map (txtF t)) [44, 32] ++ [10]
def txtP (t : List Fm) : Nat → List UInt8
  | 0 => []
  | k + 1 => txtP t k ++ lineF t (t.getD k default)
def formatE (t : List Fm) : List UInt8 × Int := if validE t ≠ 0 then ([], validE t) else (txtP t t.length, 0)
abbrev xse (p : List UInt8 × Int) : X := .tup [.c (.s p.1), .c (.i .i64 p.2)]
theorem fname_le {l : List UInt8} (h : fnameB l = true) : l.length ≤ 24 := by
  rw [fname_eq] at h
  simp only [Bool.and_eq_true, decide_eq_true_eq] at h
  exact h.1.2
theorem Tab.name {t : List Fm} (hv : validE t = 0) {i : Nat} (hi : i < t.length) : fnameB (t.getD i default).name = true ∧ findF (t.getD i default).name 0 (t.take i) < 0 := by
  have := fmE_zero (validE_fm hv i hi)
  exact ⟨this.2.2.2.1, this.2.2.2.2⟩
theorem decN_len {n : Int} (h0 : 0 ≤ n) (h1 : n ≤ 1000) : (decN n).length ≤ 4 := by
  have := dec_len 3 n.toNat (by omega)
  exact this
theorem txtF_len {t : List Fm} (hv : validE t = 0) {f : Fd} (hf : FdOk f) (hn : f.kind = 5 → f.n < t.length) : (txtF t f).length ≤ 31 := by
  obtain ⟨h1, h2, h3, h4, h5, h6, h7⟩ := hf
  have a1 := decN_len (n := f.n) (by omega) (by omega)
  have a2 := decN_len (n := f.low) (by omega) (by omega)
  have a3 := decN_len (n := f.high) (by omega) (by omega)
  have a4 := hexE_len f.bytes
  unfold txtF
  split
  · simp only [List.length_append, List.length_cons, List.length_nil]; omega
  split
  · simp only [List.length_append, List.length_cons, List.length_nil]; omega
  split
  · simp only [List.length_append, List.length_cons, List.length_nil]; omega
  split
  · simp only [List.length_append, List.length_cons, List.length_nil]; omega
  split
  · rename_i h
    have := fname_le (Tab.name hv (i := f.n.toNat) (by have := hn h; omega)).1
    simp only [List.length_append, List.length_cons, List.length_nil]
    show 7 + (t.getD f.n.toNat default).name.length ≤ 31
    omega
  · simp only [List.length_append, List.length_cons, List.length_nil]; omega
def sumL (l : List (List UInt8)) : Nat := (l.map List.length).sum
theorem joinTail_len (p : List UInt8) : ∀ l : List (List UInt8), (Lib.joinTail p l).length = sumL l + p.length * l.length
  | [] => rfl
  | x :: l => by
    have e : Lib.joinTail p (x :: l) = p ++ x ++ Lib.joinTail p l := by simp [Lib.joinTail]
    rw [e]
    simp only [List.length_append, joinTail_len p l, sumL, List.map_cons, List.sum_cons, List.length_cons, Nat.mul_succ]
    omega
theorem join_len (p : List UInt8) (l : List (List UInt8)) : (Lib.join l p).length ≤ sumL l + p.length * l.length := by
  cases l with
  | nil => simp [Lib.join_nil]
  | cons x l =>
    rw [Lib.join_cons, List.length_append, joinTail_len]
    simp only [sumL, List.map_cons, List.sum_cons, List.length_cons, Nat.mul_succ]
    omega
theorem sumL_le {B : Nat} : ∀ {l : List (List UInt8)}, (∀ x ∈ l, x.length ≤ B) → sumL l ≤ B * l.length
  | [], _ => by simp [sumL]
  | x :: l, h => by
    have h1 := h x (by simp)
    have h2 := sumL_le (B := B) (l := l) fun y hy => h y (by simp [hy])
    simp only [sumL, List.map_cons, List.sum_cons, List.length_cons, Nat.mul_succ] at h2 ⊢
    omega
theorem txts_len {t : List Fm} (hv : validE t = 0) {i : Nat} (hi : i < t.length) : ∀ x ∈ (t.getD i default).fields.map (txtF t), x.length ≤ 31 := by
  intro x hx
  obtain ⟨f, hf, rfl⟩ := List.mem_map.1 hx
  obtain ⟨k, hk, e⟩ := List.mem_iff_getElem.1 hf
  have he : (t.getD i default).fields.getD k default = f := by rw [List.getD_eq_getElem?_getD, List.getElem?_eq_getElem hk, e]; rfl
  have h1 := (Tab.of hv).fdOk hi hk
  have h2 := ((Tab.of hv).fds hi).nest k hk
  rw [he] at h1 h2
  exact txtF_len hv h1 fun h => (h2 h).1
theorem lineF_len {t : List Fm} (hv : validE t = 0) {i : Nat} (hi : i < t.length) : (lineF t (t.getD i default)).length ≤ 225 := by
  have h1 := fname_le (Tab.name hv hi).1
  have h2 := (Tab.of hv).nf i hi
  have h3 := sumL_le (txts_len hv hi)
  have h4 := join_len [44, 32] ((t.getD i default).fields.map (txtF t))
  rw [List.length_map] at h3 h4
  simp only [lineF, List.length_append, List.length_cons, List.length_nil] at h4 ⊢
  omega
theorem txtP_len {t : List Fm} (hv : validE t = 0) : ∀ k, k ≤ t.length → (txtP t k).length ≤ 225 * k
  | 0, _ => by simp [txtP]
  | k + 1, hk => by
    have h1 := txtP_len hv k (by omega)
    have h2 := lineF_len hv (i := k) (by omega)
    rw [txtP, List.length_append]; omega
/-- Digits, as the reference writes them. -/
theorem dig1I : ∀ n : Fin 10, (([48, 49, 50, 51, 52, 53, 54, 55, 56, 57] : List UInt8).take (n.val + 1)).drop n.val = [UInt8.ofNat (48 + n.val)] := by decide +kernel
theorem rdig_spec (u : Nat) : u ≤ 9223372036854775807 → ∀ n : Int, n = u → Ctr sys 28 [xi n] [] (xs (Lib.decDigits u)) none [] := by
  induction u using Nat.strongRecOn with
  | ind u ih =>
    intro hu n hn
    subst hn
    refine spec_intro Tryd.func28 rfl rfl rfl rfl rfl rfl ?_
    refine awp_seq (awp_region ?_)
    refine al_pure rfl rfl rfl (pure_assign rfl gU) ?_
    refine al_nil ?_
    refine awp_seq ?_
    refine awp_seq (awp_region ?_)
    refine al_pure rfl rfl rfl (pure_move rfl gU) ?_
    refine al_pure rfl rfl rfl (pure_cmp rfl rfl gU gU rfl) ?_
    refine al_nil ?_
    refine awp_cond rfl (fun hc => ?_) (fun hc => ?_)
    · try simp only [nn] at hc
      have e := dig1I ⟨u, by omega⟩
      refine awp_seq (awp_region ?_)
      refine al_pure rfl rfl rfl (pure_move rfl gU) ?_
      refine al_pure rfl rfl rfl (pure_move rfl gU) ?_
      refine al_pure rfl rfl rfl (pure_arith rfl rfl gU gU rfl (IntWalk.i64_in _ (by omega))) ?_
      refine al_pure rfl rfl rfl (pure_sliceS (l := u) (h' := (u + 1)) rfl gU Tryd.underlying9 (fun _ => ⟨_, _, _, rfl, gU, by first | omega | (show _ ≤ 10; omega) | (simp at hh ⊢; omega)⟩) (fun _ => ⟨_, _, _, rfl, gU, by first | omega | (show _ ≤ 10; omega) | (simp at hh ⊢; omega)⟩) (fun hh => by first | omega | (show _ ≤ 10; omega) | (simp at hh ⊢; omega)) (fun hh => by first | omega | (show _ ≤ 10; omega) | (simp at hh ⊢; omega))) ?_
      refine al_pure rfl rfl rfl (pure_assign rfl gU) ?_
      refine al_nil ?_
      refine awp_ret ?_
      repeat (first | refine tR ?_ | refine bR ?_)
      refine ret_ok rfl ?_ trivial
      (rw [Lib.decDigits, dif_pos (by omega)]; exact congrArg xs e)
    · try simp only [nn] at hc
      have h1 := ih (u / 10) (by omega) (by omega) ((u : Int) / 10) (by omega)
      have h2 := ih (u % 10) (by omega) (by omega) ((u : Int) % 10) (by omega)
      have l1 := dec_len 19 (u / 10) (by omega)
      have l2 := dec_len 19 (u % 10) (by omega)
      refine awp_skip ?_
      refine awp_seq (awp_region ?_)
      refine al_pure rfl rfl rfl (pure_move rfl gU) ?_
      refine al_pure rfl rfl rfl (pure_quoG rfl rfl gU gU (fun hh => by first | omega | (show _ ≤ 10; omega) | (simp at hh ⊢; omega)) (fun hh => (congrArg IntKind.i64.wrap (Int.tdiv_eq_ediv_of_nonneg (by first | omega | (show _ ≤ 10; omega) | (simp at hh ⊢; omega)))).trans (IntWalk.i64_in _ (by omega)))) ?_
      refine al_call rfl rfl rfl rfl rfl rfl gU gU (h1) rfl ?_
      refine al_pure rfl rfl rfl (pure_move rfl gU) ?_
      refine al_pure rfl rfl rfl (pure_remG rfl rfl gU gU (fun hh => by first | omega | (show _ ≤ 10; omega) | (simp at hh ⊢; omega)) (fun hh => Int.tmod_eq_emod_of_nonneg (by first | omega | (show _ ≤ 10; omega) | (simp at hh ⊢; omega)))) ?_
      refine al_call rfl rfl rfl rfl rfl rfl gU gU (h2) rfl ?_
      refine al_pure rfl rfl rfl (pure_concat rfl rfl gU gU (by first | omega | (simp only [List.length_append]; omega))) ?_
      refine al_pure rfl rfl rfl (pure_assign rfl gU) ?_
      refine al_nil ?_
      refine awp_ret ?_
      repeat (first | refine tR ?_ | refine bR ?_)
      refine ret_ok rfl ?_ trivial
      rw [show Lib.decDigits u = Lib.decDigits (u / 10) ++ [UInt8.ofNat (48 + u % 10)] by rw [Lib.decDigits, dif_neg (by omega)], show Lib.decDigits (u % 10) = [UInt8.ofNat (48 + u % 10)] by rw [Lib.decDigits, dif_pos (by omega)]]
      rfl
theorem hex1I : ∀ n : Fin 16, (hexs.take (n.val + 1)).drop n.val = [hexs.getD n.val 0] := by decide +kernel
theorem hex1 {n : Nat} (h : n < 16) : (hexs.take (n + 1)).drop n = [hexs.getD n 0] := hex1I ⟨n, h⟩
theorem rhex_spec (s : List UInt8) (hs : s.length ≤ 1000) : Ctr sys 59 [xs s] [] (xs (hexE s)) none [] := by
  have hq : ∀ k, (hexE (s.take k)).length ≤ 2000 := by
    intro k
    rw [hexE_len, List.length_take]; omega
  refine spec_intro Tryd.func59 rfl rfl rfl rfl rfl rfl ?_
  refine awp_seq (awp_region ?_)
  refine al_pure rfl rfl rfl (pure_assign rfl gU) ?_
  refine al_nil ?_
  refine awp_seq (awp_region ?_)
  refine al_pure rfl rfl rfl (pure_assign rfl gU) ?_
  refine al_nil ?_
  refine awp_seq ?_
  refine awp_seq (awp_region ?_)
  refine al_pure rfl rfl rfl (pure_assign rfl gU) ?_
  refine al_nil ?_
  refine awp_block ?_
  refine awp_for (ι := Nat) { t := [(0, _, _)], bx := [], ow := [] } (fun k => [(4, true, xi (k : Int)), (3, true, xs (hexE (s.take k)))]) (fun k => []) (fun k => k ≤ s.length) (fun k => s.length - k) (0) (by simp) (sub_mk (⟨sx rfl, ⟨sx rfl, ⟨sx rfl, trivial⟩⟩⟩) trivial trivial) ?_
  intro k hok
  dsimp only [List.cons_append, List.nil_append]
  have hqk := hq k
  have hu := (s.getD k 0).toNat_lt
  refine awp_seq ?_
  refine awp_seq (awp_region ?_)
  refine al_pure rfl rfl rfl (pure_move rfl gU) ?_
  refine al_pure rfl rfl rfl (pure_move rfl gU) ?_
  refine al_lenS rfl rfl rfl rfl rfl gU (Tryd.underlying9) ?_ (fun hh => by simp at hh); intro hlen
  refine al_pure rfl rfl rfl (pure_cmp rfl rfl gU gU rfl) ?_
  refine al_nil ?_
  refine awp_cond rfl (fun hc => ?_) (fun hc => ?_)
  · try simp only [nn] at hc
    have hT := hexE_take (l := s) (k := k) (by omega)
    have e1 := hex1 (n := (s.getD k 0).toNat / 16) (by omega)
    have e2 := hex1 (n := (s.getD k 0).toNat % 16) (by omega)
    refine awp_skip ?_
    refine awp_seq ?_
    refine awp_block ?_
    refine awp_seq ?_
    refine awp_drawn' (by kernel_rfl) ?_
    refine dr_pure rfl rfl rfl rfl (pure_move rfl gU) ?_
    refine dr_pure rfl rfl rfl rfl (pure_move rfl gU) ?_
    refine dr_pure rfl rfl rfl rfl (pure_indexSg (j := k) rfl rfl gU gU Tryd.underlying9 (by first | omega | (show _ ≤ 16; omega) | (simp; omega) | (simp at hh ⊢; omega)) (fun hh => by first | omega | (show _ ≤ 16; omega) | (simp; omega) | (simp at hh ⊢; omega))) ?_
    refine dr_pure rfl rfl rfl rfl (pure_quoG rfl rfl gU gU (fun hh => by first | omega | (show _ ≤ 16; omega) | (simp; omega) | (simp at hh ⊢; omega)) (fun hh => (congrArg IntKind.u8.wrap (Int.tdiv_eq_ediv_of_nonneg (by first | omega | (show _ ≤ 16; omega) | (simp; omega) | (simp at hh ⊢; omega)))).trans (IntWalk.u8_in _ (by omega)))) ?_
    refine dr_pure rfl rfl rfl rfl (pure_move rfl gU) ?_
    refine dr_pure rfl rfl rfl rfl (pure_move rfl gU) ?_
    refine dr_pure rfl rfl rfl rfl (pure_indexSg (j := k) rfl rfl gU gU Tryd.underlying9 (by first | omega | (show _ ≤ 16; omega) | (simp; omega) | (simp at hh ⊢; omega)) (fun hh => by first | omega | (show _ ≤ 16; omega) | (simp; omega) | (simp at hh ⊢; omega))) ?_
    refine dr_pure rfl rfl rfl rfl (pure_remG rfl rfl gU gU (fun hh => by first | omega | (show _ ≤ 16; omega) | (simp; omega) | (simp at hh ⊢; omega)) (fun hh => Int.tmod_eq_emod_of_nonneg (by first | omega | (show _ ≤ 16; omega) | (simp; omega) | (simp at hh ⊢; omega)))) ?_
    refine dr_pure rfl rfl rfl rfl (pure_assign rfl gU) ?_
    refine dr_pure rfl rfl rfl rfl (pure_assign rfl gU) ?_
    refine dr_nil (by kernel_rfl) ?_
    refine awp_sub (s := { t := [(0, _, _), (3, _, _), (4, _, _), (5, _, _), (6, _, _)], bx := [], ow := [] }) (sub_mk (⟨sx rfl, ⟨sx rfl, ⟨sx rfl, ⟨sx rfl, ⟨sx rfl, trivial⟩⟩⟩⟩⟩) trivial trivial) ?_
    refine awp_drawn' (by kernel_rfl) ?_
    refine dr_pure rfl rfl rfl rfl (pure_move rfl gU) ?_
    refine dr_pure rfl rfl rfl rfl (pure_move rfl gU) ?_
    refine dr_pure rfl rfl rfl rfl (pure_move rfl gU) ?_
    refine dr_pure rfl rfl rfl rfl (pure_arith rfl rfl gU gU rfl (IntWalk.u8_in _ (by omega))) ?_
    refine dr_pure rfl rfl rfl rfl (pure_sliceS (l := ((s.getD k 0).toNat / 16)) (h' := ((s.getD k 0).toNat / 16 + 1)) rfl gU Tryd.underlying9 (fun _ => ⟨_, _, _, rfl, gU, by first | omega | (show _ ≤ 16; omega) | (simp; omega) | (simp at hh ⊢; omega)⟩) (fun _ => ⟨_, _, _, rfl, gU, by first | omega | (show _ ≤ 16; omega) | (simp; omega) | (simp at hh ⊢; omega)⟩) (fun hh => by first | omega | (show _ ≤ 16; omega) | (simp; omega) | (simp at hh ⊢; omega)) (fun hh => by first | omega | (show _ ≤ 16; omega) | (simp; omega) | (simp at hh ⊢; omega))) ?_
    refine dr_pure rfl rfl rfl rfl (pure_concat rfl rfl gU gU (by (try simp only [List.length_append, List.length_singleton]); (try simp); omega)) ?_
    refine dr_pure rfl rfl rfl rfl (pure_move rfl gU) ?_
    refine dr_pure rfl rfl rfl rfl (pure_move rfl gU) ?_
    refine dr_pure rfl rfl rfl rfl (pure_arith rfl rfl gU gU rfl (IntWalk.u8_in _ (by omega))) ?_
    refine dr_pure rfl rfl rfl rfl (pure_sliceS (l := ((s.getD k 0).toNat % 16)) (h' := ((s.getD k 0).toNat % 16 + 1)) rfl gU Tryd.underlying9 (fun _ => ⟨_, _, _, rfl, gU, by first | omega | (show _ ≤ 16; omega) | (simp; omega) | (simp at hh ⊢; omega)⟩) (fun _ => ⟨_, _, _, rfl, gU, by first | omega | (show _ ≤ 16; omega) | (simp; omega) | (simp at hh ⊢; omega)⟩) (fun hh => by first | omega | (show _ ≤ 16; omega) | (simp; omega) | (simp at hh ⊢; omega)) (fun hh => by first | omega | (show _ ≤ 16; omega) | (simp; omega) | (simp at hh ⊢; omega))) ?_
    refine dr_pure rfl rfl rfl rfl (pure_concat rfl rfl gU gU (by (try simp only [List.length_append, List.length_singleton]); (try simp); omega)) ?_
    refine dr_pure rfl rfl rfl rfl (pure_assign rfl gU) ?_
    refine dr_nil (by kernel_rfl) ?_
    refine awp_sub (s := { t := [(0, _, _), (3, _, _), (4, _, _)], bx := [], ow := [] }) (sub_mk (⟨sx rfl, ⟨sx rfl, ⟨sx rfl, trivial⟩⟩⟩) trivial trivial) ?_
    refine awp_region ?_
    refine al_pure rfl rfl rfl (pure_move rfl gU) ?_
    refine al_pure rfl rfl rfl (pure_arith rfl rfl gU gU rfl (IntWalk.i64_in _ (by omega))) ?_
    refine al_pure rfl rfl rfl (pure_assign rfl gU) ?_
    refine al_nil ?_
    refine ⟨k + 1, ?_, ?_, sub_mk (⟨⟨_, rfl, ?_⟩, ⟨⟨_, rfl, ?_⟩, ⟨sx rfl, trivial⟩⟩⟩) trivial trivial⟩
    all_goals (first | rfl | omega | exact tx (congrArg xs (by rw [hT, show ([hexs.getD ((s.getD k 0).toNat / 16) 0, hexs.getD ((s.getD k 0).toNat % 16) 0] : List UInt8) = [hexs.getD ((s.getD k 0).toNat / 16) 0] ++ [hexs.getD ((s.getD k 0).toNat % 16) 0] from rfl, ← List.append_assoc, ← e1, ← e2]; rfl)))
  · try simp only [nn] at hc
    have hk : k = s.length := by omega
    rw [hk, List.take_length] at hqk ⊢
    refine awp_exit ?_
    repeat (first | refine thenS_exit ?_ | refine blockS_hit ?_ | refine blockS_miss rfl ?_)
    refine awp_seq (awp_region ?_)
    refine al_pure rfl rfl rfl (pure_move rfl gU) ?_
    refine al_pure rfl rfl rfl (pure_assign rfl gU) ?_
    refine al_nil ?_
    refine awp_ret ?_
    repeat (first | refine tR ?_ | refine bR ?_)
    refine ret_ok rfl ?_ trivial
    rfl
theorem shrI : ∀ n : Fin 256, ((UInt8.ofNat n.val).toNat : Int).fdiv (2 ^ (min (Int.toNat 4) IntKind.u8.bits)) = (((UInt8.ofNat n.val).toNat / 16 : Nat) : Int) := by decide +kernel
theorem shr4 (c : UInt8) : (c.toNat : Int).fdiv (2 ^ (min (Int.toNat 4) IntKind.u8.bits)) = ((c.toNat / 16 : Nat) : Int) := by
  have := shrI ⟨c.toNat, c.toNat_lt⟩
  rwa [show UInt8.ofNat c.toNat = c from UInt8.ofNat_toNat] at this
theorem andI : ∀ n : Fin 256, IntKind.u8.wrap (BitVec.ofInt IntKind.u8.bits ((UInt8.ofNat n.val).toNat : Int) &&& BitVec.ofInt IntKind.u8.bits 15).toNat = (((UInt8.ofNat n.val).toNat % 16 : Nat) : Int) := by decide +kernel
theorem and15 (c : UInt8) : IntKind.u8.wrap (BitVec.ofInt IntKind.u8.bits (c.toNat : Int) &&& BitVec.ofInt IntKind.u8.bits 15).toNat = ((c.toNat % 16 : Nat) : Int) := by
  have := andI ⟨c.toNat, c.toNat_lt⟩
  rwa [show UInt8.ofNat c.toNat = c from UInt8.ofNat_toNat] at this
theorem fhex_spec (s : List UInt8) (hs : s.length ≤ 1000) : Ctr sys 50 [xs s] [] (xs (hexE s)) none [] := by
  have hq : ∀ k, (hexE (s.take k)).length ≤ 2000 := by
    intro k
    rw [hexE_len, List.length_take]; omega
  refine spec_intro Tryd.func50 rfl rfl rfl rfl rfl rfl ?_
  refine awp_seq (awp_region ?_)
  refine al_pure rfl rfl rfl (pure_assign rfl gU) ?_
  refine al_nil ?_
  refine awp_seq (awp_region ?_)
  refine al_do rfl (does_nil (.inr rfl) rfl rfl) ?_
  refine al_nil ?_
  refine awp_seq ?_
  refine awp_seq (awp_region ?_)
  refine al_pure rfl rfl rfl (pure_move rfl gU) ?_
  refine al_lenS rfl rfl rfl rfl rfl gU (Tryd.underlying9) ?_ (fun hh => by simp at hh); intro hlen
  refine al_pure rfl rfl rfl (pure_move rfl gU) ?_
  refine al_nil ?_
  refine awp_sub (s := { t := [(0, _, _), (3, _, _), (6, _, _), (7, _, _)], bx := [], ow := [((.t 3), _)] }) (sub_mk (⟨sx rfl, ⟨sx rfl, ⟨sx rfl, ⟨sx rfl, trivial⟩⟩⟩⟩) trivial (⟨rfl, trivial⟩)) ?_
  refine awp_block ?_
  refine awp_for (ι := Nat) { t := [(0, _, _), (6, _, _)], bx := [], ow := [((.t 3), _)] } (fun k => [(7, true, xi (k : Int)), (3, true, xbs (hexE (s.take k)))]) (fun k => []) (fun k => k ≤ s.length) (fun k => s.length - k) (0) (by simp) (sub_mk (⟨sx rfl, ⟨sx rfl, ⟨sx rfl, ⟨sx rfl, trivial⟩⟩⟩⟩) trivial (⟨rfl, trivial⟩)) ?_
  intro k hok
  dsimp only [List.cons_append, List.nil_append]
  have hqk := hq k
  have hql := bytesR_len (hexE (s.take k))
  have hu := (s.getD k 0).toNat_lt
  refine awp_seq (awp_region ?_)
  refine al_pure rfl rfl rfl (pure_cmp rfl rfl gU gU rfl) ?_
  refine al_nil ?_
  refine awp_seq ?_
  refine awp_cond rfl (fun hc => ?_) (fun hc => ?_)
  · try simp only [nn] at hc
    have hT := hexE_take (l := s) (k := k) (by omega)
    refine awp_skip ?_
    refine awp_seq ?_
    refine awp_block ?_
    refine awp_seq (awp_region ?_)
    refine al_pure rfl rfl rfl (pure_move rfl gU) ?_
    refine al_pure rfl rfl rfl (pure_assign rfl gU) ?_
    refine al_nil ?_
    refine awp_drawn' (by kernel_rfl) ?_
    refine dr_take rfl (.inl rfl) rfl rfl rfl rfl rfl ?_
    refine dr_pure rfl rfl rfl rfl (pure_move rfl gU) ?_
    refine dr_pure rfl rfl rfl rfl (pure_move rfl gU) ?_
    refine dr_pure rfl rfl rfl rfl (pure_indexSg (j := k) rfl rfl gU gU Tryd.underlying9 (by first | omega | (show _ ≤ 16; omega) | (simp; omega) | (simp at hh ⊢; omega)) (fun hh => by first | omega | (show _ ≤ 16; omega) | (simp; omega) | (simp at hh ⊢; omega))) ?_
    refine dr_pure rfl rfl rfl rfl (pure_shr (s := (((s.getD k 0).toNat / 16 : Nat) : Int)) rfl rfl gU gU (by omega) (by first | exact shr4 _ | exact and15 _)) ?_
    refine dr_pure rfl rfl rfl rfl (pure_indexSg (j := ((s.getD k 0).toNat / 16)) rfl rfl gU gU Tryd.underlying9 (by first | omega | (show _ ≤ 16; omega) | (simp; omega) | (simp at hh ⊢; omega)) (fun hh => by first | omega | (show _ ≤ 16; omega) | (simp; omega) | (simp at hh ⊢; omega))) ?_
    refine dr_pure rfl rfl rfl rfl (pure_move rfl gU) ?_
    refine dr_pure rfl rfl rfl rfl (pure_move rfl gU) ?_
    refine dr_pure rfl rfl rfl rfl (pure_indexSg (j := k) rfl rfl gU gU Tryd.underlying9 (by first | omega | (show _ ≤ 16; omega) | (simp; omega) | (simp at hh ⊢; omega)) (fun hh => by first | omega | (show _ ≤ 16; omega) | (simp; omega) | (simp at hh ⊢; omega))) ?_
    refine dr_pure rfl rfl rfl rfl (pure_bitAnd (s := (((s.getD k 0).toNat % 16 : Nat) : Int)) rfl rfl gU gU (by first | exact shr4 _ | exact and15 _)) ?_
    refine dr_pure rfl rfl rfl rfl (pure_indexSg (j := ((s.getD k 0).toNat % 16)) rfl rfl gU gU Tryd.underlying9 (by first | omega | (show _ ≤ 16; omega) | (simp; omega) | (simp at hh ⊢; omega)) (fun hh => by first | omega | (show _ ≤ 16; omega) | (simp; omega) | (simp at hh ⊢; omega))) ?_
    refine dr_build (xs := [_, _]) rfl rfl rfl rfl rfl rfl rfl rfl rfl rfl gU rfl ?_
    refine dr_append rfl rfl rfl rfl rfl (rko (ak2 rfl (ak rfl (ak rfl (ak rfl (ak rfl (ak rfl (ak rfl (ak rfl (ak rfl (ak rfl (ak rfl (rfl))))))))))))) rfl rfl rfl rfl rfl (by first | omega | (rw [bytesR_len]; simp; omega)) (by first | omega | (rw [bytesR_len]; simp; omega)) ?_
    refine dr_take rfl (.inr rfl) rfl rfl rfl rfl rfl ?_
    refine dr_nil (by kernel_rfl) ?_
    refine awp_sub (s := { t := [(0, _, _), (3, _, _), (6, _, _), (7, _, _)], bx := [], ow := [((.t 3), _)] }) (sub_mk (⟨sx rfl, ⟨sx rfl, ⟨sx rfl, ⟨sx rfl, trivial⟩⟩⟩⟩) trivial (⟨rfl, trivial⟩)) ?_
    refine awp_region ?_
    refine al_pure rfl rfl rfl (pure_arith rfl rfl gU gU rfl (IntWalk.i64_in _ (by omega))) ?_
    refine al_pure rfl rfl rfl (pure_move rfl gU) ?_
    refine al_nil ?_
    refine ⟨k + 1, ?_, ?_, sub_mk (⟨⟨_, rfl, ?_⟩, ⟨⟨_, rfl, ?_⟩, ⟨sx rfl, ⟨sx rfl, trivial⟩⟩⟩⟩) trivial (⟨rfl, trivial⟩)⟩
    all_goals (first | rfl | omega | exact tx (by rw [hT]; simp only [xbs, bytesR_app]; rfl))
  · try simp only [nn] at hc
    have hk : k = s.length := by omega
    rw [hk, List.take_length] at hqk hql ⊢
    refine awp_exit ?_
    repeat (first | refine thenS_exit ?_ | refine blockS_hit ?_ | refine blockS_miss rfl ?_)
    refine awp_seq (awp_region ?_)
    refine al_pure rfl rfl rfl (pure_move rfl gU) ?_
    refine al_pure rfl rfl rfl (pure_bytesStr rfl (rfl) gU Tryd.underlying35 Tryd.underlying5 Tryd.underlying9) ?_
    refine al_pure rfl rfl rfl (pure_assign rfl gU) ?_
    refine al_nil ?_
    refine awp_ret ?_
    repeat (first | refine tR ?_ | refine bR ?_)
    refine ret_ok rfl ?_ trivial
    rfl
end Go.Proofs.YthfoclblmdnckaaDoor
