/- Our abstract program logic and contracts of this seat's functions, part 4: no statement of its own. -/
import Derived.Test.YtgjclggjkhapfaaM3
/- Contracts: the bounds of formats, on both sides. -/
set_option linter.unusedVariables false
set_option linter.unusedSimpArgs false
namespace Go.Proofs.Ytgjclggjkhapfaa
open Go Go.Abs
abbrev xii (p : Int × Int) : X := .tup [.c (.i .i64 p.1), .c (.i .i64 p.2)]
abbrev xiie (p : Int × Int × Int) : X := .tup [.c (.i .i64 p.1), .c (.i .i64 p.2.1), .c (.i .i64 p.2.2)]
theorem xii_eq {a b : Int} {p : Int × Int} (h1 : a = p.1) (h2 : b = p.2) : X.tup [.c (.i .i64 a), .c (.i .i64 b)] = xii p := by rw [h1, h2]
theorem xiie_eq {a b c : Int} {p : Int × Int × Int} (h1 : a = p.1) (h2 : b = p.2.1) (h3 : c = p.2.2) : X.tup [.c (.i .i64 a), .c (.i .i64 b), .c (.i .i64 c)] = xiie p := by rw [h1, h2, h3]
theorem fbounds1_spec (t : List Fm) (f : Fd) (hf : FdOk f) (h5 : f.kind ≠ 5) : Ctr sys 58 [xtab t, xf f] [] (xii (bnd1 f)) none [] := by
  have hn := hf.n
  have hk := hf.k
  refine spec_intro Try.func58 rfl rfl rfl rfl rfl rfl ?_
  refine awp_seq ?_
  refine awp_region ?_
  refine al_do rfl (does_box rfl rfl rfl rfl) ?_
  refine al_pure rfl rfl rfl (pure_assign rfl (fun _ => rfl)) ?_
  refine al_pure rfl rfl rfl (pure_assign rfl (fun _ => rfl)) ?_
  refine al_nil ?_
  refine awp_seq ?_
  refine awp_seq ?_
  refine awp_region ?_
  refine al_pure rfl rfl rfl (pure_fieldPtr rfl (fun _ => rfl) rfl rfl) ?_
  refine al_pure rfl rfl rfl (pure_loadBox rfl (fun _ => rfl) rfl rfl rfl rfl) ?_
  refine al_nil ?_
  refine awp_sub (s := { t := [(0, _, _), (3, _, _), (13, _, _)], bx := [((.l 3), _)], ow := [] }) (sub_mk (⟨⟨_, rfl, rfl⟩, ⟨⟨_, rfl, rfl⟩, ⟨⟨_, rfl, rfl⟩, trivial⟩⟩⟩) (⟨⟨_, rfl, rfl⟩, trivial⟩) trivial) ?_
  refine awp_block ?_
  refine awp_seq ?_
  refine awp_region ?_
  refine al_pure rfl rfl rfl (pure_cmp rfl rfl (fun _ => rfl) (fun _ => rfl) rfl) ?_
  refine al_pure rfl rfl rfl (pure_assign rfl (fun _ => rfl)) ?_
  refine al_nil ?_
  refine awp_cond rfl (fun hc => ?_) (fun hc => ?_)
  · try simp only [n1, n2, n3, n4, n5, n6, n7, n8, n9, n10, n11, n12, n13, n14, n15, n16, Fm.rows_len, Fd.rows_len] at hc
    refine awp_seq ?_
    refine awp_drawn' (by kernel_rfl) ?_
    refine dr_pure rfl rfl rfl rfl (pure_fieldPtr rfl (fun _ => rfl) rfl rfl) ?_
    refine dr_load rfl rfl rfl rfl rfl rfl rfl (fun _ => rfl) rfl rfl rfl rfl ?_
    refine dr_pure rfl rfl rfl rfl (pure_lenS rfl (fun _ => rfl) (Try.underlying9)) ?_
    refine dr_pure rfl rfl rfl rfl (pure_fieldPtr rfl (fun _ => rfl) rfl rfl) ?_
    refine dr_load rfl rfl rfl rfl rfl rfl rfl (fun _ => rfl) rfl rfl rfl rfl ?_
    refine dr_pure rfl rfl rfl rfl (pure_lenS rfl (fun _ => rfl) (Try.underlying9)) ?_
    refine dr_pure rfl rfl rfl rfl (pure_assign rfl (fun _ => rfl)) ?_
    refine dr_pure rfl rfl rfl rfl (pure_assign rfl (fun _ => rfl)) ?_
    refine dr_nil (by kernel_rfl) ?_
    refine awp_ret ?_
    repeat (first | refine thenS_ret ?_ | refine blockS_ret ?_)
    refine ret_ok rfl ?_ trivial
    exact xii_eq (by simp [bnd1, *]) (by simp [bnd1, *])
  · try simp only [n1, n2, n3, n4, n5, n6, n7, n8, n9, n10, n11, n12, n13, n14, n15, n16, Fm.rows_len, Fd.rows_len] at hc
    refine awp_seq ?_
    refine awp_region ?_
    refine al_pure rfl rfl rfl (pure_cmp rfl rfl (fun _ => rfl) (fun _ => rfl) rfl) ?_
    refine al_pure rfl rfl rfl (pure_assign rfl (fun _ => rfl)) ?_
    refine al_nil ?_
    refine awp_cond rfl (fun hc2 => ?_) (fun hc2 => ?_)
    · try simp only [n1, n2, n3, n4, n5, n6, n7, n8, n9, n10, n11, n12, n13, n14, n15, n16, Fm.rows_len, Fd.rows_len] at hc2
      refine awp_seq ?_
      refine awp_drawn' (by kernel_rfl) ?_
      refine dr_pure rfl rfl rfl rfl (pure_fieldPtr rfl (fun _ => rfl) rfl rfl) ?_
      refine dr_load rfl rfl rfl rfl rfl rfl rfl (fun _ => rfl) rfl rfl rfl rfl ?_
      refine dr_pure rfl rfl rfl rfl (pure_fieldPtr rfl (fun _ => rfl) rfl rfl) ?_
      refine dr_load rfl rfl rfl rfl rfl rfl rfl (fun _ => rfl) rfl rfl rfl rfl ?_
      refine dr_pure rfl rfl rfl rfl (pure_assign rfl (fun _ => rfl)) ?_
      refine dr_pure rfl rfl rfl rfl (pure_assign rfl (fun _ => rfl)) ?_
      refine dr_nil (by kernel_rfl) ?_
      refine awp_ret ?_
      repeat (first | refine thenS_ret ?_ | refine blockS_ret ?_)
      refine ret_ok rfl ?_ trivial
      exact xii_eq (by simp [bnd1, *]) (by simp [bnd1, *])
    · try simp only [n1, n2, n3, n4, n5, n6, n7, n8, n9, n10, n11, n12, n13, n14, n15, n16, Fm.rows_len, Fd.rows_len] at hc2
      refine awp_seq ?_
      refine awp_region ?_
      refine al_pure rfl rfl rfl (pure_cmp rfl rfl (fun _ => rfl) (fun _ => rfl) rfl) ?_
      refine al_pure rfl rfl rfl (pure_assign rfl (fun _ => rfl)) ?_
      refine al_nil ?_
      refine awp_sub (s := { t := [(0, _, _), (3, _, _), (13, _, _), (28, _, _)], bx := [((.l 3), _)], ow := [] }) (sub_mk (⟨⟨_, rfl, rfl⟩, ⟨⟨_, rfl, rfl⟩, ⟨⟨_, rfl, rfl⟩, ⟨⟨_, rfl, rfl⟩, trivial⟩⟩⟩⟩) (⟨⟨_, rfl, rfl⟩, trivial⟩) trivial) ?_
      refine awp_cond rfl (fun hc3 => ?_) (fun hc3 => ?_)
      · try simp only [n1, n2, n3, n4, n5, n6, n7, n8, n9, n10, n11, n12, n13, n14, n15, n16, Fm.rows_len, Fd.rows_len] at hc3
        refine awp_seq ?_
        refine awp_drawn' (by kernel_rfl) ?_
        refine dr_pure rfl rfl rfl rfl (pure_fieldPtr rfl (fun _ => rfl) rfl rfl) ?_
        refine dr_load rfl rfl rfl rfl rfl rfl rfl (fun _ => rfl) rfl rfl rfl rfl ?_
        refine dr_pure rfl rfl rfl rfl (pure_arith rfl rfl (fun _ => rfl) (fun _ => rfl) rfl (IntWalk.i64_in _ (by omega))) ?_
        refine dr_pure rfl rfl rfl rfl (pure_assign rfl (fun _ => rfl)) ?_
        refine dr_pure rfl rfl rfl rfl (pure_assign rfl (fun _ => rfl)) ?_
        refine dr_nil (by kernel_rfl) ?_
        refine awp_ret ?_
        repeat (first | refine thenS_ret ?_ | refine blockS_ret ?_)
        refine ret_ok rfl ?_ trivial
        exact xii_eq (by simp [bnd1, *]) (by simp [bnd1, *])
      · try simp only [n1, n2, n3, n4, n5, n6, n7, n8, n9, n10, n11, n12, n13, n14, n15, n16, Fm.rows_len, Fd.rows_len] at hc3
        refine awp_seq ?_
        refine awp_region ?_
        refine al_pure rfl rfl rfl (pure_cmp rfl rfl (fun _ => rfl) (fun _ => rfl) rfl) ?_
        refine al_pure rfl rfl rfl (pure_assign rfl (fun _ => rfl)) ?_
        refine al_nil ?_
        refine awp_cond rfl (fun hc4 => ?_) (fun hc4 => ?_)
        · try simp only [n1, n2, n3, n4, n5, n6, n7, n8, n9, n10, n11, n12, n13, n14, n15, n16, Fm.rows_len, Fd.rows_len] at hc4
          exact absurd hc4 h5
        · try simp only [n1, n2, n3, n4, n5, n6, n7, n8, n9, n10, n11, n12, n13, n14, n15, n16, Fm.rows_len, Fd.rows_len] at hc4
          refine awp_seq ?_
          refine awp_region ?_
          refine al_pure rfl rfl rfl (pure_cmp rfl rfl (fun _ => rfl) (fun _ => rfl) rfl) ?_
          refine al_pure rfl rfl rfl (pure_assign rfl (fun _ => rfl)) ?_
          refine al_nil ?_
          refine awp_cond rfl (fun hc1 => ?_) (fun hc1 => ?_)
          · try simp only [n1, n2, n3, n4, n5, n6, n7, n8, n9, n10, n11, n12, n13, n14, n15, n16, Fm.rows_len, Fd.rows_len] at hc1
            refine awp_seq ?_
            refine awp_drawn' (by kernel_rfl) ?_
            refine dr_pure rfl rfl rfl rfl (pure_fieldPtr rfl (fun _ => rfl) rfl rfl) ?_
            refine dr_load rfl rfl rfl rfl rfl rfl rfl (fun _ => rfl) rfl rfl rfl rfl ?_
            refine dr_pure rfl rfl rfl rfl (pure_fieldPtr rfl (fun _ => rfl) rfl rfl) ?_
            refine dr_load rfl rfl rfl rfl rfl rfl rfl (fun _ => rfl) rfl rfl rfl rfl ?_
            refine dr_pure rfl rfl rfl rfl (pure_assign rfl (fun _ => rfl)) ?_
            refine dr_pure rfl rfl rfl rfl (pure_assign rfl (fun _ => rfl)) ?_
            refine dr_nil (by kernel_rfl) ?_
            refine awp_ret ?_
            repeat (first | refine thenS_ret ?_ | refine blockS_ret ?_)
            refine ret_ok rfl ?_ trivial
            exact xii_eq (by simp [bnd1, *]) (by simp [bnd1, *])
          · try simp only [n1, n2, n3, n4, n5, n6, n7, n8, n9, n10, n11, n12, n13, n14, n15, n16, Fm.rows_len, Fd.rows_len] at hc1
            refine awp_skip ?_
            refine awp_seq ?_
            refine awp_region ?_
            refine al_pure rfl rfl rfl (pure_assign rfl (fun _ => rfl)) ?_
            refine al_pure rfl rfl rfl (pure_assign rfl (fun _ => rfl)) ?_
            refine al_nil ?_
            refine awp_ret ?_
            repeat (first | refine thenS_ret ?_ | refine blockS_ret ?_)
            refine ret_ok rfl ?_ trivial
            exact xii_eq (by simp [bnd1, *]) (by simp [bnd1, *])
theorem fbounds_spec (t : List Fm) (f : Fd) (hf : FdOk f) (hnest : f.kind = 5 → f.n < t.length ∧ Plain1 (t.getD f.n.toNat default).fields) : Ctr sys 58 [xtab t, xf f] [] (xii (bndF (bnd0 t) f)) none [] := by
  by_cases h5 : f.kind = 5
  · obtain ⟨h1, h2⟩ := hnest h5
    have hn := hf.n
    have hrl := Fm.rows_len t
    have hrf := Fd.rows_len (t.getD f.n.toNat default).fields
    refine spec_intro Try.func58 rfl rfl rfl rfl rfl rfl ?_
    refine awp_seq ?_
    refine awp_region ?_
    refine al_do rfl (does_box rfl rfl rfl rfl) ?_
    refine al_pure rfl rfl rfl (pure_assign rfl (fun _ => rfl)) ?_
    refine al_pure rfl rfl rfl (pure_assign rfl (fun _ => rfl)) ?_
    refine al_nil ?_
    refine awp_seq ?_
    refine awp_seq ?_
    refine awp_region ?_
    refine al_pure rfl rfl rfl (pure_fieldPtr rfl (fun _ => rfl) rfl rfl) ?_
    refine al_pure rfl rfl rfl (pure_loadBox rfl (fun _ => rfl) rfl rfl rfl rfl) ?_
    refine al_nil ?_
    refine awp_sub (s := { t := [(0, _, _), (3, _, _), (13, _, _)], bx := [((.l 3), _)], ow := [] }) (sub_mk (⟨⟨_, rfl, rfl⟩, ⟨⟨_, rfl, rfl⟩, ⟨⟨_, rfl, rfl⟩, trivial⟩⟩⟩) (⟨⟨_, rfl, rfl⟩, trivial⟩) trivial) ?_
    refine awp_block ?_
    refine awp_seq ?_
    refine awp_region ?_
    refine al_pure rfl rfl rfl (pure_cmp rfl rfl (fun _ => rfl) (fun _ => rfl) rfl) ?_
    refine al_pure rfl rfl rfl (pure_assign rfl (fun _ => rfl)) ?_
    refine al_nil ?_
    refine awp_cond rfl (fun hc => ?_) (fun hc => ?_)
    · try simp only [n1, n2, n3, n4, n5, n6, n7, n8, n9, n10, n11, n12, n13, n14, n15, n16, Fm.rows_len, Fd.rows_len] at hc
      exfalso; omega
    · try simp only [n1, n2, n3, n4, n5, n6, n7, n8, n9, n10, n11, n12, n13, n14, n15, n16, Fm.rows_len, Fd.rows_len] at hc
      refine awp_seq ?_
      refine awp_region ?_
      refine al_pure rfl rfl rfl (pure_cmp rfl rfl (fun _ => rfl) (fun _ => rfl) rfl) ?_
      refine al_pure rfl rfl rfl (pure_assign rfl (fun _ => rfl)) ?_
      refine al_nil ?_
      refine awp_cond rfl (fun hc2 => ?_) (fun hc2 => ?_)
      · try simp only [n1, n2, n3, n4, n5, n6, n7, n8, n9, n10, n11, n12, n13, n14, n15, n16, Fm.rows_len, Fd.rows_len] at hc2
        exfalso; omega
      · try simp only [n1, n2, n3, n4, n5, n6, n7, n8, n9, n10, n11, n12, n13, n14, n15, n16, Fm.rows_len, Fd.rows_len] at hc2
        refine awp_seq ?_
        refine awp_region ?_
        refine al_pure rfl rfl rfl (pure_cmp rfl rfl (fun _ => rfl) (fun _ => rfl) rfl) ?_
        refine al_pure rfl rfl rfl (pure_assign rfl (fun _ => rfl)) ?_
        refine al_nil ?_
        refine awp_sub (s := { t := [(0, _, _), (3, _, _), (13, _, _), (28, _, _)], bx := [((.l 3), _)], ow := [] }) (sub_mk (⟨⟨_, rfl, rfl⟩, ⟨⟨_, rfl, rfl⟩, ⟨⟨_, rfl, rfl⟩, ⟨⟨_, rfl, rfl⟩, trivial⟩⟩⟩⟩) (⟨⟨_, rfl, rfl⟩, trivial⟩) trivial) ?_
        refine awp_cond rfl (fun hc3 => ?_) (fun hc3 => ?_)
        · try simp only [n1, n2, n3, n4, n5, n6, n7, n8, n9, n10, n11, n12, n13, n14, n15, n16, Fm.rows_len, Fd.rows_len] at hc3
          exfalso; omega
        · try simp only [n1, n2, n3, n4, n5, n6, n7, n8, n9, n10, n11, n12, n13, n14, n15, n16, Fm.rows_len, Fd.rows_len] at hc3
          refine awp_seq ?_
          refine awp_region ?_
          refine al_pure rfl rfl rfl (pure_cmp rfl rfl (fun _ => rfl) (fun _ => rfl) rfl) ?_
          refine al_pure rfl rfl rfl (pure_assign rfl (fun _ => rfl)) ?_
          refine al_nil ?_
          refine awp_cond rfl (fun hc4 => ?_) (fun hc4 => ?_)
          · try simp only [n1, n2, n3, n4, n5, n6, n7, n8, n9, n10, n11, n12, n13, n14, n15, n16, Fm.rows_len, Fd.rows_len] at hc4
            refine awp_seq ?_
            refine awp_region ?_
            refine al_pure rfl rfl rfl (pure_assign rfl (fun _ => rfl)) ?_
            refine al_pure rfl rfl rfl (pure_assign rfl (fun _ => rfl)) ?_
            refine al_nil ?_
            refine awp_seq ?_
            refine awp_seq ?_
            refine awp_region ?_
            refine al_pure rfl rfl rfl (pure_move rfl (fun _ => rfl)) ?_
            refine al_pure rfl rfl rfl (pure_fieldPtr rfl (fun _ => rfl) rfl rfl) ?_
            refine al_pure rfl rfl rfl (pure_loadBox rfl (fun _ => rfl) rfl rfl rfl rfl) ?_
            refine al_pure rfl rfl rfl (pure_indexAddr (j := f.n.toNat) rfl rfl (fun _ => rfl) (fun _ => rfl) rfl rfl (by omega) (fun hh => Fm.rows_at (by omega))) ?_
            refine al_pure rfl rfl rfl (pure_fieldRo rfl (fun _ => rfl) rfl rfl) ?_
            refine al_pure rfl rfl rfl (pure_loadRo rfl (fun _ => rfl) rfl rfl rfl) ?_
            refine al_lenSl rfl rfl rfl rfl rfl (fun _ => rfl) rfl rfl ?_ (fun hh => by simp at hh); intro hlen
            refine al_pure rfl rfl rfl (pure_move rfl (fun _ => rfl)) ?_
            refine al_nil ?_
            refine awp_sub (s := { t := [(0, _, _), (6, _, _), (7, _, _), (40, _, _), (41, _, _), (42, _, _)], bx := [], ow := [] }) (sub_mk (⟨⟨_, rfl, rfl⟩, ⟨⟨_, rfl, rfl⟩, ⟨⟨_, rfl, rfl⟩, ⟨⟨_, rfl, rfl⟩, ⟨⟨_, rfl, rfl⟩, ⟨⟨_, rfl, rfl⟩, trivial⟩⟩⟩⟩⟩⟩) trivial trivial) ?_
            refine awp_block ?_
            refine awp_for (ι := Nat) { t := [(0, _, _), (40, _, _), (41, _, _)], bx := [], ow := [] } (fun k => [(42, true, xi (k : Int)), (6, true, xi (1 + (bndL (fun _ => (0, 0)) ((t.getD f.n.toNat default).fields.take k)).1)), (7, true, xi (1 + (bndL (fun _ => (0, 0)) ((t.getD f.n.toNat default).fields.take k)).2))]) (fun k => []) (fun k => k ≤ (t.getD f.n.toNat default).fields.length) (fun k => (t.getD f.n.toNat default).fields.length - k) (0) (by simp) (sub_mk (⟨⟨_, rfl, rfl⟩, ⟨⟨_, rfl, rfl⟩, ⟨⟨_, rfl, rfl⟩, ⟨⟨_, rfl, rfl⟩, ⟨⟨_, rfl, rfl⟩, ⟨⟨_, rfl, rfl⟩, trivial⟩⟩⟩⟩⟩⟩) trivial trivial) ?_
            intro k hok
            dsimp only [List.cons_append, List.nil_append]
            have hb := h2.bnd (rec := fun _ => (0, 0)) k
            refine awp_seq ?_
            refine awp_region ?_
            refine al_pure rfl rfl rfl (pure_cmp rfl rfl (fun _ => rfl) (fun _ => rfl) rfl) ?_
            refine al_nil ?_
            refine awp_seq ?_
            refine awp_cond rfl (fun hc5 => ?_) (fun hc5 => ?_)
            · have hc5 : k < (t.getD f.n.toNat default).fields.length := by simp only [decide_eq_true_eq, hrf] at hc5; omega
              obtain ⟨q1, q2⟩ := bndL_take (rec := fun _ => (0, 0)) hc5
              have hb' := h2.bnd (rec := fun _ => (0, 0)) (k + 1)
              have hbe := bndF_eq (rec := fun _ => (0, 0)) (h2.ok k hc5).2.1
              have hb1 := bnd1_le (h2.ok k hc5).1
              rw [hbe] at q1 q2
              refine awp_skip ?_
              refine awp_seq ?_
              refine awp_block ?_
              refine awp_seq ?_
              refine awp_region ?_
              refine al_pure rfl rfl rfl (pure_indexAddr rfl rfl (fun _ => rfl) (fun _ => rfl) rfl rfl rfl (fun hh => Fd.rows_at (by omega))) ?_
              refine al_pure rfl rfl rfl (pure_loadRoRow rfl (fun _ => rfl) rfl rfl rfl rfl) ?_
              refine al_do rfl (does_alloc rfl rfl rfl) ?_
              refine al_do rfl (does_store rfl rfl rfl rfl rfl rfl rfl) ?_
              refine al_nil ?_
              refine awp_seq ?_
              refine awp_region ?_
              refine al_pure rfl rfl rfl (pure_move rfl (fun _ => rfl)) ?_
              refine al_pure rfl rfl rfl (pure_loadBoxRow rfl (fun _ => rfl) rfl rfl rfl rfl rfl) ?_
              refine al_call rfl rfl rfl rfl rfl rfl (fun _ => rfl) (fun _ => rfl) (fbounds1_spec _ _ (h2.ok k hc5).1 (h2.ok k hc5).2.1) rfl ?_
              refine al_pure rfl rfl rfl (pure_move rfl (fun _ => rfl)) ?_
              refine al_pure rfl rfl rfl (pure_extract rfl (fun _ => rfl) rfl) ?_
              refine al_pure rfl rfl rfl (pure_extract rfl (fun _ => rfl) rfl) ?_
              refine al_pure rfl rfl rfl (pure_assign rfl (fun _ => rfl)) ?_
              refine al_pure rfl rfl rfl (pure_assign rfl (fun _ => rfl)) ?_
              refine al_nil ?_
              refine awp_sub (s := { t := [(0, _, _), (6, _, _), (7, _, _), (10, _, _), (11, _, _), (40, _, _), (41, _, _), (42, _, _)], bx := [], ow := [] }) (sub_mk (⟨⟨_, rfl, rfl⟩, ⟨⟨_, rfl, rfl⟩, ⟨⟨_, rfl, rfl⟩, ⟨⟨_, rfl, rfl⟩, ⟨⟨_, rfl, rfl⟩, ⟨⟨_, rfl, rfl⟩, ⟨⟨_, rfl, rfl⟩, ⟨⟨_, rfl, rfl⟩, trivial⟩⟩⟩⟩⟩⟩⟩⟩) trivial trivial) ?_
              refine awp_region ?_
              refine al_pure rfl rfl rfl (pure_move rfl (fun _ => rfl)) ?_
              refine al_pure rfl rfl rfl (pure_move rfl (fun _ => rfl)) ?_
              refine al_pure rfl rfl rfl (pure_arith rfl rfl (fun _ => rfl) (fun _ => rfl) rfl (IntWalk.i64_in _ (by omega))) ?_
              refine al_pure rfl rfl rfl (pure_move rfl (fun _ => rfl)) ?_
              refine al_pure rfl rfl rfl (pure_move rfl (fun _ => rfl)) ?_
              refine al_pure rfl rfl rfl (pure_arith rfl rfl (fun _ => rfl) (fun _ => rfl) rfl (IntWalk.i64_in _ (by omega))) ?_
              refine al_pure rfl rfl rfl (pure_assign rfl (fun _ => rfl)) ?_
              refine al_pure rfl rfl rfl (pure_assign rfl (fun _ => rfl)) ?_
              refine al_nil ?_
              refine awp_sub (s := { t := [(0, _, _), (6, _, _), (7, _, _), (40, _, _), (41, _, _), (42, _, _)], bx := [], ow := [] }) (sub_mk (⟨⟨_, rfl, rfl⟩, ⟨⟨_, rfl, rfl⟩, ⟨⟨_, rfl, rfl⟩, ⟨⟨_, rfl, rfl⟩, ⟨⟨_, rfl, rfl⟩, ⟨⟨_, rfl, rfl⟩, trivial⟩⟩⟩⟩⟩⟩) trivial trivial) ?_
              refine awp_region ?_
              refine al_pure rfl rfl rfl (pure_arith rfl rfl (fun _ => rfl) (fun _ => rfl) rfl (IntWalk.i64_in _ (by omega))) ?_
              refine al_pure rfl rfl rfl (pure_move rfl (fun _ => rfl)) ?_
              refine al_nil ?_
              refine ⟨k + 1, ?_, ?_, sub_mk (⟨⟨_, rfl, ?_⟩, ⟨⟨_, rfl, ?_⟩, ⟨⟨_, rfl, ?_⟩, ⟨⟨_, rfl, rfl⟩, ⟨⟨_, rfl, rfl⟩, ⟨⟨_, rfl, rfl⟩, trivial⟩⟩⟩⟩⟩⟩) trivial trivial⟩
              all_goals (first | omega | rfl | exact tx (xi_eq (by omega)))
            · try simp only [n1, n2, n3, n4, n5, n6, n7, n8, n9, n10, n11, n12, n13, n14, n15, n16, Fm.rows_len, Fd.rows_len] at hc5
              refine awp_exit ?_
              repeat (first | refine thenS_exit ?_ | refine blockS_hit ?_ | refine blockS_miss rfl ?_)
              refine awp_seq ?_
              refine awp_region ?_
              refine al_pure rfl rfl rfl (pure_move rfl (fun _ => rfl)) ?_
              refine al_pure rfl rfl rfl (pure_move rfl (fun _ => rfl)) ?_
              refine al_pure rfl rfl rfl (pure_assign rfl (fun _ => rfl)) ?_
              refine al_pure rfl rfl rfl (pure_assign rfl (fun _ => rfl)) ?_
              refine al_nil ?_
              refine awp_ret ?_
              repeat (first | refine thenS_ret ?_ | refine blockS_ret ?_)
              refine ret_ok rfl ?_ trivial
              have : k = (t.getD f.n.toNat default).fields.length := by omega
              rw [this, List.take_length]
              exact xii_eq (by rw [bndF, if_pos h5]; rfl) (by rw [bndF, if_pos h5]; rfl)
          · try simp only [n1, n2, n3, n4, n5, n6, n7, n8, n9, n10, n11, n12, n13, n14, n15, n16, Fm.rows_len, Fd.rows_len] at hc4
            exact absurd h5 hc4
  · rw [bndF_eq h5]
    exact fbounds1_spec t f hf h5
theorem fBounds_spec (t : List Fm) (i : Int) : Ctr sys 37 [xtab t, xi i] [] (xiie (boundsE t i)) none [] := by
  have hrl := Fm.rows_len t
  refine spec_intro Try.func37 rfl rfl rfl rfl rfl rfl ?_
  refine awp_seq ?_
  refine awp_region ?_
  refine al_pure rfl rfl rfl (pure_assign rfl (fun _ => rfl)) ?_
  refine al_pure rfl rfl rfl (pure_assign rfl (fun _ => rfl)) ?_
  refine al_pure rfl rfl rfl (pure_assign rfl (fun _ => rfl)) ?_
  refine al_nil ?_
  refine awp_seq ?_
  refine awp_seq ?_
  refine awp_region ?_
  refine al_pure rfl rfl rfl (pure_move rfl (fun _ => rfl)) ?_
  refine al_call rfl rfl rfl rfl rfl rfl (fun _ => rfl) (fun _ => rfl) (fValid_spec _) rfl ?_
  refine al_pure rfl rfl rfl (pure_assign rfl (fun _ => rfl)) ?_
  refine al_nil ?_
  refine awp_sub (s := { t := [(0, _, _), (1, _, _), (7, _, _)], bx := [], ow := [] }) (sub_mk (⟨⟨_, rfl, rfl⟩, ⟨⟨_, rfl, rfl⟩, ⟨⟨_, rfl, rfl⟩, trivial⟩⟩⟩) trivial trivial) ?_
  refine awp_seq ?_
  refine awp_region ?_
  refine al_pure rfl rfl rfl (pure_move rfl (fun _ => rfl)) ?_
  refine al_pure rfl rfl rfl (pure_cmp rfl rfl (fun _ => rfl) (fun _ => rfl) rfl) ?_
  refine al_nil ?_
  refine awp_cond rfl (fun hc => ?_) (fun hc => ?_)
  · try simp only [n1, n2, n3, n4, n5, n6, n7, n8, n9, n10, n11, n12, n13, n14, n15, n16, Fm.rows_len, Fd.rows_len] at hc
    refine awp_seq ?_
    refine awp_region ?_
    refine al_pure rfl rfl rfl (pure_move rfl (fun _ => rfl)) ?_
    refine al_pure rfl rfl rfl (pure_assign rfl (fun _ => rfl)) ?_
    refine al_pure rfl rfl rfl (pure_assign rfl (fun _ => rfl)) ?_
    refine al_pure rfl rfl rfl (pure_assign rfl (fun _ => rfl)) ?_
    refine al_nil ?_
    refine awp_ret ?_
    repeat (first | refine thenS_ret ?_ | refine blockS_ret ?_)
    refine ret_ok rfl ?_ trivial
    exact xiie_eq (by simp [boundsE, errE, hc]) (by simp [boundsE, errE, hc]) (by simp [boundsE, errE, hc])
  · try simp only [n1, n2, n3, n4, n5, n6, n7, n8, n9, n10, n11, n12, n13, n14, n15, n16, Fm.rows_len, Fd.rows_len] at hc
    refine awp_skip ?_
    refine awp_seq ?_
    refine awp_seq ?_
    refine awp_region ?_
    refine al_pure rfl rfl rfl (pure_move rfl (fun _ => rfl)) ?_
    refine al_pure rfl rfl rfl (pure_cmp rfl rfl (fun _ => rfl) (fun _ => rfl) rfl) ?_
    refine al_pure rfl rfl rfl (pure_move rfl (fun _ => rfl)) ?_
    refine al_pure rfl rfl rfl (pure_move rfl (fun _ => rfl)) ?_
    refine al_pure rfl rfl rfl (pure_move rfl (fun _ => rfl)) ?_
    refine al_pure rfl rfl rfl (pure_lenSl rfl (fun hh => hh) rfl rfl) ?_
    refine al_pure rfl rfl rfl (pure_cmp rfl rfl (fun hh => hh) (fun hh => hh) rfl) ?_
    refine al_pure rfl rfl rfl (pure_or rfl rfl (fun _ => rfl) (fun _ hi => gP rfl hi)) ?_
    refine al_nil ?_
    refine awp_sub (s := { t := [(0, _, _), (1, _, _), (26, _, _)], bx := [], ow := [] }) (sub_mk (⟨⟨_, rfl, rfl⟩, ⟨⟨_, rfl, rfl⟩, ⟨⟨_, rfl, rfl⟩, trivial⟩⟩⟩) trivial trivial) ?_
    refine awp_cond rfl (fun hc2 => ?_) (fun hc2 => ?_)
    · try simp only [n1, n2, n3, n4, n5, n6, n7, n8, n9, n10, n11, n12, n13, n14, n15, n16, Fm.rows_len, Fd.rows_len] at hc2
      have he : errE t i = 7 := by rw [errE, if_neg (by omega), if_pos (by omega)]
      refine awp_seq ?_
      refine awp_region ?_
      refine al_pure rfl rfl rfl (pure_assign rfl (fun _ => rfl)) ?_
      refine al_pure rfl rfl rfl (pure_assign rfl (fun _ => rfl)) ?_
      refine al_pure rfl rfl rfl (pure_assign rfl (fun _ => rfl)) ?_
      refine al_nil ?_
      refine awp_ret ?_
      repeat (first | refine thenS_ret ?_ | refine blockS_ret ?_)
      refine ret_ok rfl ?_ trivial
      exact xiie_eq (by simp [boundsE, *]) (by simp [boundsE, *]) (by simp [boundsE, *])
    · try simp only [n1, n2, n3, n4, n5, n6, n7, n8, n9, n10, n11, n12, n13, n14, n15, n16, Fm.rows_len, Fd.rows_len] at hc2
      have he : errE t i = 0 := by rw [errE, if_neg (by omega), if_neg (by omega)]
      obtain ⟨ht, _, _⟩ := errE_zero he
      have hfs := ht.fds (i := i.toNat) (by omega)
      have hrf := Fd.rows_len (t.getD i.toNat default).fields
      refine awp_skip ?_
      refine awp_seq ?_
      refine awp_region ?_
      refine al_pure rfl rfl rfl (pure_assign rfl (fun _ => rfl)) ?_
      refine al_pure rfl rfl rfl (pure_assign rfl (fun _ => rfl)) ?_
      refine al_nil ?_
      refine awp_seq ?_
      refine awp_seq ?_
      refine awp_region ?_
      refine al_pure rfl rfl rfl (pure_move rfl (fun _ => rfl)) ?_
      refine al_pure rfl rfl rfl (pure_move rfl (fun _ => rfl)) ?_
      refine al_pure rfl rfl rfl (pure_indexAddr (j := i.toNat) rfl rfl (fun _ => rfl) (fun _ => rfl) rfl rfl (by omega) (fun hh => Fm.rows_at (by omega))) ?_
      refine al_pure rfl rfl rfl (pure_fieldRo rfl (fun _ => rfl) rfl rfl) ?_
      refine al_pure rfl rfl rfl (pure_loadRo rfl (fun _ => rfl) rfl rfl rfl) ?_
      refine al_lenSl rfl rfl rfl rfl rfl (fun _ => rfl) rfl rfl ?_ (fun hh => by simp at hh); intro hlen
      refine al_pure rfl rfl rfl (pure_move rfl (fun _ => rfl)) ?_
      refine al_nil ?_
      refine awp_sub (s := { t := [(0, _, _), (8, _, _), (9, _, _), (31, _, _), (32, _, _), (33, _, _)], bx := [], ow := [] }) (sub_mk (⟨⟨_, rfl, rfl⟩, ⟨⟨_, rfl, rfl⟩, ⟨⟨_, rfl, rfl⟩, ⟨⟨_, rfl, rfl⟩, ⟨⟨_, rfl, rfl⟩, ⟨⟨_, rfl, rfl⟩, trivial⟩⟩⟩⟩⟩⟩) trivial trivial) ?_
      refine awp_block ?_
      refine awp_for (ι := Nat) { t := [(0, _, _), (31, _, _), (32, _, _)], bx := [], ow := [] } (fun k => [(33, true, xi (k : Int)), (8, true, xi (bndL (bnd0 t) ((t.getD i.toNat default).fields.take k)).1), (9, true, xi (bndL (bnd0 t) ((t.getD i.toNat default).fields.take k)).2)]) (fun k => []) (fun k => k ≤ (t.getD i.toNat default).fields.length) (fun k => (t.getD i.toNat default).fields.length - k) (0) (by simp) (sub_mk (⟨⟨_, rfl, rfl⟩, ⟨⟨_, rfl, rfl⟩, ⟨⟨_, rfl, rfl⟩, ⟨⟨_, rfl, rfl⟩, ⟨⟨_, rfl, rfl⟩, ⟨⟨_, rfl, rfl⟩, trivial⟩⟩⟩⟩⟩⟩) trivial trivial) ?_
      intro k hok
      dsimp only [List.cons_append, List.nil_append]
      have hb := hfs.bnd k
      refine awp_seq ?_
      refine awp_region ?_
      refine al_pure rfl rfl rfl (pure_cmp rfl rfl (fun _ => rfl) (fun _ => rfl) rfl) ?_
      refine al_nil ?_
      refine awp_seq ?_
      refine awp_cond rfl (fun hc3 => ?_) (fun hc3 => ?_)
      · have hc3 : k < (t.getD i.toNat default).fields.length := by simp only [decide_eq_true_eq, hrf] at hc3; omega
        obtain ⟨q1, q2⟩ := bndL_take (rec := bnd0 t) hc3
        have hb' := hfs.bnd (k + 1)
        have hb1 := hfs.bndF hc3
        refine awp_skip ?_
        refine awp_seq ?_
        refine awp_block ?_
        refine awp_seq ?_
        refine awp_region ?_
        refine al_pure rfl rfl rfl (pure_indexAddr rfl rfl (fun _ => rfl) (fun _ => rfl) rfl rfl rfl (fun hh => Fd.rows_at (by omega))) ?_
        refine al_pure rfl rfl rfl (pure_loadRoRow rfl (fun _ => rfl) rfl rfl rfl rfl) ?_
        refine al_do rfl (does_alloc rfl rfl rfl) ?_
        refine al_do rfl (does_store rfl rfl rfl rfl rfl rfl rfl) ?_
        refine al_nil ?_
        refine awp_seq ?_
        refine awp_region ?_
        refine al_pure rfl rfl rfl (pure_move rfl (fun _ => rfl)) ?_
        refine al_pure rfl rfl rfl (pure_loadBoxRow rfl (fun _ => rfl) rfl rfl rfl rfl rfl) ?_
        refine al_call rfl rfl rfl rfl rfl rfl (fun _ => rfl) (fun _ => rfl) (fbounds_spec _ _ (hfs.ok k hc3) (hfs.nest k hc3)) rfl ?_
        refine al_pure rfl rfl rfl (pure_move rfl (fun _ => rfl)) ?_
        refine al_pure rfl rfl rfl (pure_extract rfl (fun _ => rfl) rfl) ?_
        refine al_pure rfl rfl rfl (pure_extract rfl (fun _ => rfl) rfl) ?_
        refine al_pure rfl rfl rfl (pure_assign rfl (fun _ => rfl)) ?_
        refine al_pure rfl rfl rfl (pure_assign rfl (fun _ => rfl)) ?_
        refine al_nil ?_
        refine awp_sub (s := { t := [(0, _, _), (8, _, _), (9, _, _), (12, _, _), (13, _, _), (31, _, _), (32, _, _), (33, _, _)], bx := [], ow := [] }) (sub_mk (⟨⟨_, rfl, rfl⟩, ⟨⟨_, rfl, rfl⟩, ⟨⟨_, rfl, rfl⟩, ⟨⟨_, rfl, rfl⟩, ⟨⟨_, rfl, rfl⟩, ⟨⟨_, rfl, rfl⟩, ⟨⟨_, rfl, rfl⟩, ⟨⟨_, rfl, rfl⟩, trivial⟩⟩⟩⟩⟩⟩⟩⟩) trivial trivial) ?_
        refine awp_region ?_
        refine al_pure rfl rfl rfl (pure_move rfl (fun _ => rfl)) ?_
        refine al_pure rfl rfl rfl (pure_move rfl (fun _ => rfl)) ?_
        refine al_pure rfl rfl rfl (pure_arith rfl rfl (fun _ => rfl) (fun _ => rfl) rfl (IntWalk.i64_in _ (by omega))) ?_
        refine al_pure rfl rfl rfl (pure_move rfl (fun _ => rfl)) ?_
        refine al_pure rfl rfl rfl (pure_move rfl (fun _ => rfl)) ?_
        refine al_pure rfl rfl rfl (pure_arith rfl rfl (fun _ => rfl) (fun _ => rfl) rfl (IntWalk.i64_in _ (by omega))) ?_
        refine al_pure rfl rfl rfl (pure_assign rfl (fun _ => rfl)) ?_
        refine al_pure rfl rfl rfl (pure_assign rfl (fun _ => rfl)) ?_
        refine al_nil ?_
        refine awp_sub (s := { t := [(0, _, _), (8, _, _), (9, _, _), (31, _, _), (32, _, _), (33, _, _)], bx := [], ow := [] }) (sub_mk (⟨⟨_, rfl, rfl⟩, ⟨⟨_, rfl, rfl⟩, ⟨⟨_, rfl, rfl⟩, ⟨⟨_, rfl, rfl⟩, ⟨⟨_, rfl, rfl⟩, ⟨⟨_, rfl, rfl⟩, trivial⟩⟩⟩⟩⟩⟩) trivial trivial) ?_
        refine awp_region ?_
        refine al_pure rfl rfl rfl (pure_arith rfl rfl (fun _ => rfl) (fun _ => rfl) rfl (IntWalk.i64_in _ (by omega))) ?_
        refine al_pure rfl rfl rfl (pure_move rfl (fun _ => rfl)) ?_
        refine al_nil ?_
        refine ⟨k + 1, ?_, ?_, sub_mk (⟨⟨_, rfl, ?_⟩, ⟨⟨_, rfl, ?_⟩, ⟨⟨_, rfl, ?_⟩, ⟨⟨_, rfl, rfl⟩, ⟨⟨_, rfl, rfl⟩, ⟨⟨_, rfl, rfl⟩, trivial⟩⟩⟩⟩⟩⟩) trivial trivial⟩
        all_goals (first | omega | rfl | exact tx (xi_eq (by omega)))
      · try simp only [n1, n2, n3, n4, n5, n6, n7, n8, n9, n10, n11, n12, n13, n14, n15, n16, Fm.rows_len, Fd.rows_len] at hc3
        refine awp_exit ?_
        repeat (first | refine thenS_exit ?_ | refine blockS_hit ?_ | refine blockS_miss rfl ?_)
        refine awp_seq ?_
        refine awp_region ?_
        refine al_pure rfl rfl rfl (pure_move rfl (fun _ => rfl)) ?_
        refine al_pure rfl rfl rfl (pure_move rfl (fun _ => rfl)) ?_
        refine al_pure rfl rfl rfl (pure_assign rfl (fun _ => rfl)) ?_
        refine al_pure rfl rfl rfl (pure_assign rfl (fun _ => rfl)) ?_
        refine al_pure rfl rfl rfl (pure_assign rfl (fun _ => rfl)) ?_
        refine al_nil ?_
        refine awp_ret ?_
        repeat (first | refine thenS_ret ?_ | refine blockS_ret ?_)
        refine ret_ok rfl ?_ trivial
        have : k = (t.getD i.toNat default).fields.length := by omega
        rw [this, List.take_length]
        refine xiie_eq ?_ ?_ ?_
        all_goals (rw [boundsE, if_neg (by omega)]; try rfl)
theorem bndF_cases (rec : Int → Int × Int) (f : Fd) : (f.kind = 1 → (bndF rec f).1 = f.bytes.length ∧ (bndF rec f).2 = f.bytes.length) ∧ (f.kind = 2 → (bndF rec f).1 = f.n ∧ (bndF rec f).2 = f.n) ∧
    (f.kind = 3 → (bndF rec f).1 = 1 ∧ (bndF rec f).2 = 1 + f.n) ∧ (f.kind = 4 → (bndF rec f).1 = 1 ∧ (bndF rec f).2 = 1) ∧ (f.kind = 5 → (bndF rec f).1 = 1 + (rec f.n).1 ∧ (bndF rec f).2 = 1 + (rec f.n).2) ∧
    (f.kind = 6 → (bndF rec f).1 = f.low ∧ (bndF rec f).2 = f.high) := by
  refine ⟨?_, ?_, ?_, ?_, ?_, ?_⟩ <;> (intro h; simp [bndF, bnd1, h])
theorem rlen_gen (t : List Fm) (i : Int) (rec : Int → Int × Int) (hi : 0 ≤ i ∧ i < t.length) (hlen : (t.getD i.toNat default).fields.length ≤ 6)
    (hfd : ∀ k, k < (t.getD i.toNat default).fields.length → FdOk ((t.getD i.toNat default).fields.getD k default))
    (hbd : ∀ k, 0 ≤ (bndL rec ((t.getD i.toNat default).fields.take k)).1 ∧ (bndL rec ((t.getD i.toNat default).fields.take k)).1 ≤ (bndL rec ((t.getD i.toNat default).fields.take k)).2 ∧ (bndL rec ((t.getD i.toNat default).fields.take k)).2 ≤ 42000)
    (hb1 : ∀ k, k < (t.getD i.toNat default).fields.length → 0 ≤ (bndF rec ((t.getD i.toNat default).fields.getD k default)).1 ∧ (bndF rec ((t.getD i.toNat default).fields.getD k default)).1 ≤ (bndF rec ((t.getD i.toNat default).fields.getD k default)).2 ∧ (bndF rec ((t.getD i.toNat default).fields.getD k default)).2 ≤ 7000)
    (hrec : ∀ k, k < (t.getD i.toNat default).fields.length → ((t.getD i.toNat default).fields.getD k default).kind = 5 → Ctr sys 49 [xtab t, xi ((t.getD i.toNat default).fields.getD k default).n] [] (xii (rec ((t.getD i.toNat default).fields.getD k default).n)) none []) :
    Ctr sys 49 [xtab t, xi i] [] (xii (bndL rec (t.getD i.toNat default).fields)) none [] := by
  have hrl := Fm.rows_len t
  have hrf := Fd.rows_len (t.getD i.toNat default).fields
  refine spec_intro Try.func49 rfl rfl rfl rfl rfl rfl ?_
  refine awp_seq ?_
  refine awp_region ?_
  refine al_pure rfl rfl rfl (pure_assign rfl (fun _ => rfl)) ?_
  refine al_pure rfl rfl rfl (pure_assign rfl (fun _ => rfl)) ?_
  refine al_nil ?_
  refine awp_seq ?_
  refine awp_region ?_
  refine al_pure rfl rfl rfl (pure_assign rfl (fun _ => rfl)) ?_
  refine al_pure rfl rfl rfl (pure_assign rfl (fun _ => rfl)) ?_
  refine al_nil ?_
  refine awp_seq ?_
  refine awp_seq ?_
  refine awp_region ?_
  refine al_pure rfl rfl rfl (pure_assign rfl (fun _ => rfl)) ?_
  refine al_nil ?_
  refine awp_sub (s := { t := [(0, _, _), (1, _, _), (6, _, _), (7, _, _), (8, _, _)], bx := [], ow := [] }) (sub_mk (⟨⟨_, rfl, rfl⟩, ⟨⟨_, rfl, rfl⟩, ⟨⟨_, rfl, rfl⟩, ⟨⟨_, rfl, rfl⟩, ⟨⟨_, rfl, rfl⟩, trivial⟩⟩⟩⟩⟩) trivial trivial) ?_
  refine awp_block ?_
  refine awp_for (ι := Nat) { t := [(0, _, _), (1, _, _)], bx := [], ow := [] } (fun k => [(8, true, xi (k : Int)), (6, true, xi (bndL rec ((t.getD i.toNat default).fields.take k)).1), (7, true, xi (bndL rec ((t.getD i.toNat default).fields.take k)).2)]) (fun k => []) (fun k => k ≤ (t.getD i.toNat default).fields.length) (fun k => (t.getD i.toNat default).fields.length - k) (0) (by simp) (sub_mk (⟨⟨_, rfl, rfl⟩, ⟨⟨_, rfl, rfl⟩, ⟨⟨_, rfl, rfl⟩, ⟨⟨_, rfl, rfl⟩, ⟨⟨_, rfl, rfl⟩, trivial⟩⟩⟩⟩⟩) trivial trivial) ?_
  intro k hok
  dsimp only [List.cons_append, List.nil_append]
  have hb := hbd k
  refine awp_seq ?_
  refine awp_seq ?_
  refine awp_region ?_
  refine al_pure rfl rfl rfl (pure_move rfl (fun _ => rfl)) ?_
  refine al_pure rfl rfl rfl (pure_move rfl (fun _ => rfl)) ?_
  refine al_pure rfl rfl rfl (pure_move rfl (fun _ => rfl)) ?_
  refine al_pure rfl rfl rfl (pure_indexAddr (j := i.toNat) rfl rfl (fun _ => rfl) (fun _ => rfl) rfl rfl (by omega) (fun hh => Fm.rows_at (by omega))) ?_
  refine al_pure rfl rfl rfl (pure_fieldRo rfl (fun _ => rfl) rfl rfl) ?_
  refine al_pure rfl rfl rfl (pure_loadRo rfl (fun _ => rfl) rfl rfl rfl) ?_
  refine al_lenSl rfl rfl rfl rfl rfl (fun _ => rfl) rfl rfl ?_ (fun hh => by simp at hh); intro hlen
  refine al_pure rfl rfl rfl (pure_cmp rfl rfl (fun _ => rfl) (fun _ => rfl) rfl) ?_
  refine al_nil ?_
  refine awp_sub (s := { t := [(0, _, _), (1, _, _), (6, _, _), (7, _, _), (8, _, _), (19, _, _)], bx := [], ow := [] }) (sub_mk (⟨⟨_, rfl, rfl⟩, ⟨⟨_, rfl, rfl⟩, ⟨⟨_, rfl, rfl⟩, ⟨⟨_, rfl, rfl⟩, ⟨⟨_, rfl, rfl⟩, ⟨⟨_, rfl, rfl⟩, trivial⟩⟩⟩⟩⟩⟩) trivial trivial) ?_
  refine awp_cond rfl (fun hc => ?_) (fun hc => ?_)
  · try simp only [n1, n2, n3, n4, n5, n6, n7, n8, n9, n10, n11, n12, n13, n14, n15, n16, Fm.rows_len, Fd.rows_len] at hc
    obtain ⟨q1, q2⟩ := bndL_take (rec := rec) (l := (t.getD i.toNat default).fields) (k := k) (by omega)
    have hb' := hbd (k + 1)
    have hb1' := hb1 k (by omega)
    have hfk := hfd k (by omega)
    obtain ⟨f1, f2, f3, f4, f5, f6, _⟩ := hfk
    obtain ⟨c1, c2, c3, c4, c5, c6⟩ := bndF_cases rec ((t.getD i.toNat default).fields.getD k default)
    refine awp_skip ?_
    refine awp_seq ?_
    refine awp_block ?_
    refine awp_seq ?_
    refine awp_region ?_
    refine al_pure rfl rfl rfl (pure_move rfl (fun _ => rfl)) ?_
    refine al_pure rfl rfl rfl (pure_move rfl (fun _ => rfl)) ?_
    refine al_pure rfl rfl rfl (pure_indexAddr (j := i.toNat) rfl rfl (fun _ => rfl) (fun _ => rfl) rfl rfl (by omega) (fun hh => Fm.rows_at (by omega))) ?_
    refine al_pure rfl rfl rfl (pure_fieldRo rfl (fun _ => rfl) rfl rfl) ?_
    refine al_pure rfl rfl rfl (pure_loadRo rfl (fun _ => rfl) rfl rfl rfl) ?_
    refine al_pure rfl rfl rfl (pure_move rfl (fun _ => rfl)) ?_
    refine al_pure rfl rfl rfl (pure_indexAddr rfl rfl (fun _ => rfl) (fun _ => rfl) rfl rfl rfl (fun hh => Fd.rows_at (by omega))) ?_
    refine al_pure rfl rfl rfl (pure_loadRoRow rfl (fun _ => rfl) rfl rfl rfl rfl) ?_
    refine al_do rfl (does_alloc rfl rfl rfl) ?_
    refine al_do rfl (does_store rfl rfl rfl rfl rfl rfl rfl) ?_
    refine al_nil ?_
    refine awp_sub (s := { t := [(0, _, _), (1, _, _), (6, _, _), (7, _, _), (8, _, _), (9, _, _)], bx := [((.l 9), _)], ow := [] }) (sub_mk (⟨⟨_, rfl, rfl⟩, ⟨⟨_, rfl, rfl⟩, ⟨⟨_, rfl, rfl⟩, ⟨⟨_, rfl, rfl⟩, ⟨⟨_, rfl, rfl⟩, ⟨⟨_, rfl, rfl⟩, trivial⟩⟩⟩⟩⟩⟩) (⟨⟨_, rfl, rfl⟩, trivial⟩) trivial) ?_
    refine awp_seq ?_
    refine awp_region ?_
    refine al_pure rfl rfl rfl (pure_fieldPtr rfl (fun _ => rfl) rfl rfl) ?_
    refine al_pure rfl rfl rfl (pure_loadBox rfl (fun _ => rfl) rfl rfl rfl rfl) ?_
    refine al_nil ?_
    refine awp_block ?_
    refine awp_seq ?_
    refine awp_region ?_
    refine al_pure rfl rfl rfl (pure_cmp rfl rfl (fun _ => rfl) (fun _ => rfl) rfl) ?_
    refine al_pure rfl rfl rfl (pure_assign rfl (fun _ => rfl)) ?_
    refine al_nil ?_
    refine awp_cond rfl (fun hc1 => ?_) (fun hc1 => ?_)
    · try simp only [n1, n2, n3, n4, n5, n6, n7, n8, n9, n10, n11, n12, n13, n14, n15, n16, Fm.rows_len, Fd.rows_len] at hc1
      refine awp_drawn' (by kernel_rfl) ?_
      refine dr_pure rfl rfl rfl rfl (pure_move rfl (fun _ => rfl)) ?_
      refine dr_pure rfl rfl rfl rfl (pure_fieldPtr rfl (fun _ => rfl) rfl rfl) ?_
      refine dr_load rfl rfl rfl rfl rfl rfl rfl (fun _ => rfl) rfl rfl rfl rfl ?_
      refine dr_pure rfl rfl rfl rfl (pure_lenS rfl (fun _ => rfl) (Try.underlying9)) ?_
      refine dr_pure rfl rfl rfl rfl (pure_arith rfl rfl (fun _ => rfl) (fun _ => rfl) rfl (IntWalk.i64_in _ (by omega))) ?_
      refine dr_pure rfl rfl rfl rfl (pure_move rfl (fun _ => rfl)) ?_
      refine dr_pure rfl rfl rfl rfl (pure_fieldPtr rfl (fun _ => rfl) rfl rfl) ?_
      refine dr_load rfl rfl rfl rfl rfl rfl rfl (fun _ => rfl) rfl rfl rfl rfl ?_
      refine dr_pure rfl rfl rfl rfl (pure_lenS rfl (fun _ => rfl) (Try.underlying9)) ?_
      refine dr_pure rfl rfl rfl rfl (pure_arith rfl rfl (fun _ => rfl) (fun _ => rfl) rfl (IntWalk.i64_in _ (by omega))) ?_
      refine dr_pure rfl rfl rfl rfl (pure_assign rfl (fun _ => rfl)) ?_
      refine dr_pure rfl rfl rfl rfl (pure_assign rfl (fun _ => rfl)) ?_
      refine dr_nil (by kernel_rfl) ?_
      refine awp_sub (s := { t := [(0, _, _), (1, _, _), (6, _, _), (7, _, _), (8, _, _)], bx := [], ow := [] }) (sub_mk (⟨⟨_, rfl, rfl⟩, ⟨⟨_, rfl, rfl⟩, ⟨⟨_, rfl, rfl⟩, ⟨⟨_, rfl, rfl⟩, ⟨⟨_, rfl, rfl⟩, trivial⟩⟩⟩⟩⟩) trivial trivial) ?_
      refine awp_region ?_
      refine al_pure rfl rfl rfl (pure_move rfl (fun _ => rfl)) ?_
      refine al_pure rfl rfl rfl (pure_arith rfl rfl (fun _ => rfl) (fun _ => rfl) rfl (IntWalk.i64_in _ (by omega))) ?_
      refine al_pure rfl rfl rfl (pure_assign rfl (fun _ => rfl)) ?_
      refine al_nil ?_
      refine ⟨k + 1, ?_, ?_, sub_mk (⟨⟨_, rfl, ?_⟩, ⟨⟨_, rfl, ?_⟩, ⟨⟨_, rfl, ?_⟩, ⟨⟨_, rfl, rfl⟩, ⟨⟨_, rfl, rfl⟩, trivial⟩⟩⟩⟩⟩) trivial trivial⟩
      all_goals (first | omega | rfl | exact tx (xi_eq (by omega)))
    · try simp only [n1, n2, n3, n4, n5, n6, n7, n8, n9, n10, n11, n12, n13, n14, n15, n16, Fm.rows_len, Fd.rows_len] at hc1
      refine awp_seq ?_
      refine awp_region ?_
      refine al_pure rfl rfl rfl (pure_cmp rfl rfl (fun _ => rfl) (fun _ => rfl) rfl) ?_
      refine al_pure rfl rfl rfl (pure_assign rfl (fun _ => rfl)) ?_
      refine al_nil ?_
      refine awp_sub (s := { t := [(0, _, _), (1, _, _), (6, _, _), (7, _, _), (8, _, _), (9, _, _), (31, _, _), (52, _, _)], bx := [((.l 9), _)], ow := [] }) (sub_mk (⟨⟨_, rfl, rfl⟩, ⟨⟨_, rfl, rfl⟩, ⟨⟨_, rfl, rfl⟩, ⟨⟨_, rfl, rfl⟩, ⟨⟨_, rfl, rfl⟩, ⟨⟨_, rfl, rfl⟩, ⟨⟨_, rfl, rfl⟩, ⟨⟨_, rfl, rfl⟩, trivial⟩⟩⟩⟩⟩⟩⟩⟩) (⟨⟨_, rfl, rfl⟩, trivial⟩) trivial) ?_
      refine awp_cond rfl (fun hc2 => ?_) (fun hc2 => ?_)
      · try simp only [n1, n2, n3, n4, n5, n6, n7, n8, n9, n10, n11, n12, n13, n14, n15, n16, Fm.rows_len, Fd.rows_len] at hc2
        refine awp_drawn' (by kernel_rfl) ?_
        refine dr_pure rfl rfl rfl rfl (pure_move rfl (fun _ => rfl)) ?_
        refine dr_pure rfl rfl rfl rfl (pure_fieldPtr rfl (fun _ => rfl) rfl rfl) ?_
        refine dr_load rfl rfl rfl rfl rfl rfl rfl (fun _ => rfl) rfl rfl rfl rfl ?_
        refine dr_pure rfl rfl rfl rfl (pure_arith rfl rfl (fun _ => rfl) (fun _ => rfl) rfl (IntWalk.i64_in _ (by omega))) ?_
        refine dr_pure rfl rfl rfl rfl (pure_move rfl (fun _ => rfl)) ?_
        refine dr_pure rfl rfl rfl rfl (pure_fieldPtr rfl (fun _ => rfl) rfl rfl) ?_
        refine dr_load rfl rfl rfl rfl rfl rfl rfl (fun _ => rfl) rfl rfl rfl rfl ?_
        refine dr_pure rfl rfl rfl rfl (pure_arith rfl rfl (fun _ => rfl) (fun _ => rfl) rfl (IntWalk.i64_in _ (by omega))) ?_
        refine dr_pure rfl rfl rfl rfl (pure_assign rfl (fun _ => rfl)) ?_
        refine dr_pure rfl rfl rfl rfl (pure_assign rfl (fun _ => rfl)) ?_
        refine dr_nil (by kernel_rfl) ?_
        refine awp_sub (s := { t := [(0, _, _), (1, _, _), (6, _, _), (7, _, _), (8, _, _)], bx := [], ow := [] }) (sub_mk (⟨⟨_, rfl, rfl⟩, ⟨⟨_, rfl, rfl⟩, ⟨⟨_, rfl, rfl⟩, ⟨⟨_, rfl, rfl⟩, ⟨⟨_, rfl, rfl⟩, trivial⟩⟩⟩⟩⟩) trivial trivial) ?_
        refine awp_region ?_
        refine al_pure rfl rfl rfl (pure_move rfl (fun _ => rfl)) ?_
        refine al_pure rfl rfl rfl (pure_arith rfl rfl (fun _ => rfl) (fun _ => rfl) rfl (IntWalk.i64_in _ (by omega))) ?_
        refine al_pure rfl rfl rfl (pure_assign rfl (fun _ => rfl)) ?_
        refine al_nil ?_
        refine ⟨k + 1, ?_, ?_, sub_mk (⟨⟨_, rfl, ?_⟩, ⟨⟨_, rfl, ?_⟩, ⟨⟨_, rfl, ?_⟩, ⟨⟨_, rfl, rfl⟩, ⟨⟨_, rfl, rfl⟩, trivial⟩⟩⟩⟩⟩) trivial trivial⟩
        all_goals (first | omega | rfl | exact tx (xi_eq (by omega)))
      · try simp only [n1, n2, n3, n4, n5, n6, n7, n8, n9, n10, n11, n12, n13, n14, n15, n16, Fm.rows_len, Fd.rows_len] at hc2
        refine awp_seq ?_
        refine awp_region ?_
        refine al_pure rfl rfl rfl (pure_cmp rfl rfl (fun _ => rfl) (fun _ => rfl) rfl) ?_
        refine al_pure rfl rfl rfl (pure_assign rfl (fun _ => rfl)) ?_
        refine al_nil ?_
        refine awp_cond rfl (fun hc3 => ?_) (fun hc3 => ?_)
        · try simp only [n1, n2, n3, n4, n5, n6, n7, n8, n9, n10, n11, n12, n13, n14, n15, n16, Fm.rows_len, Fd.rows_len] at hc3
          refine awp_drawn' (by kernel_rfl) ?_
          refine dr_pure rfl rfl rfl rfl (pure_move rfl (fun _ => rfl)) ?_
          refine dr_pure rfl rfl rfl rfl (pure_arith rfl rfl (fun _ => rfl) (fun _ => rfl) rfl (IntWalk.i64_in _ (by omega))) ?_
          refine dr_pure rfl rfl rfl rfl (pure_move rfl (fun _ => rfl)) ?_
          refine dr_pure rfl rfl rfl rfl (pure_arith rfl rfl (fun _ => rfl) (fun _ => rfl) rfl (IntWalk.i64_in _ (by omega))) ?_
          refine dr_pure rfl rfl rfl rfl (pure_fieldPtr rfl (fun _ => rfl) rfl rfl) ?_
          refine dr_load rfl rfl rfl rfl rfl rfl rfl (fun _ => rfl) rfl rfl rfl rfl ?_
          refine dr_pure rfl rfl rfl rfl (pure_arith rfl rfl (fun _ => rfl) (fun _ => rfl) rfl (IntWalk.i64_in _ (by omega))) ?_
          refine dr_pure rfl rfl rfl rfl (pure_assign rfl (fun _ => rfl)) ?_
          refine dr_pure rfl rfl rfl rfl (pure_assign rfl (fun _ => rfl)) ?_
          refine dr_nil (by kernel_rfl) ?_
          refine awp_sub (s := { t := [(0, _, _), (1, _, _), (6, _, _), (7, _, _), (8, _, _)], bx := [], ow := [] }) (sub_mk (⟨⟨_, rfl, rfl⟩, ⟨⟨_, rfl, rfl⟩, ⟨⟨_, rfl, rfl⟩, ⟨⟨_, rfl, rfl⟩, ⟨⟨_, rfl, rfl⟩, trivial⟩⟩⟩⟩⟩) trivial trivial) ?_
          refine awp_region ?_
          refine al_pure rfl rfl rfl (pure_move rfl (fun _ => rfl)) ?_
          refine al_pure rfl rfl rfl (pure_arith rfl rfl (fun _ => rfl) (fun _ => rfl) rfl (IntWalk.i64_in _ (by omega))) ?_
          refine al_pure rfl rfl rfl (pure_assign rfl (fun _ => rfl)) ?_
          refine al_nil ?_
          refine ⟨k + 1, ?_, ?_, sub_mk (⟨⟨_, rfl, ?_⟩, ⟨⟨_, rfl, ?_⟩, ⟨⟨_, rfl, ?_⟩, ⟨⟨_, rfl, rfl⟩, ⟨⟨_, rfl, rfl⟩, trivial⟩⟩⟩⟩⟩) trivial trivial⟩
          all_goals (first | omega | rfl | exact tx (xi_eq (by omega)))
        · try simp only [n1, n2, n3, n4, n5, n6, n7, n8, n9, n10, n11, n12, n13, n14, n15, n16, Fm.rows_len, Fd.rows_len] at hc3
          refine awp_seq ?_
          refine awp_region ?_
          refine al_pure rfl rfl rfl (pure_cmp rfl rfl (fun _ => rfl) (fun _ => rfl) rfl) ?_
          refine al_pure rfl rfl rfl (pure_assign rfl (fun _ => rfl)) ?_
          refine al_nil ?_
          refine awp_cond rfl (fun hc4 => ?_) (fun hc4 => ?_)
          · try simp only [n1, n2, n3, n4, n5, n6, n7, n8, n9, n10, n11, n12, n13, n14, n15, n16, Fm.rows_len, Fd.rows_len] at hc4
            refine awp_region ?_
            refine al_pure rfl rfl rfl (pure_move rfl (fun _ => rfl)) ?_
            refine al_pure rfl rfl rfl (pure_arith rfl rfl (fun _ => rfl) (fun _ => rfl) rfl (IntWalk.i64_in _ (by omega))) ?_
            refine al_pure rfl rfl rfl (pure_move rfl (fun _ => rfl)) ?_
            refine al_pure rfl rfl rfl (pure_arith rfl rfl (fun _ => rfl) (fun _ => rfl) rfl (IntWalk.i64_in _ (by omega))) ?_
            refine al_pure rfl rfl rfl (pure_assign rfl (fun _ => rfl)) ?_
            refine al_pure rfl rfl rfl (pure_assign rfl (fun _ => rfl)) ?_
            refine al_nil ?_
            refine awp_sub (s := { t := [(0, _, _), (1, _, _), (6, _, _), (7, _, _), (8, _, _)], bx := [], ow := [] }) (sub_mk (⟨⟨_, rfl, rfl⟩, ⟨⟨_, rfl, rfl⟩, ⟨⟨_, rfl, rfl⟩, ⟨⟨_, rfl, rfl⟩, ⟨⟨_, rfl, rfl⟩, trivial⟩⟩⟩⟩⟩) trivial trivial) ?_
            refine awp_region ?_
            refine al_pure rfl rfl rfl (pure_move rfl (fun _ => rfl)) ?_
            refine al_pure rfl rfl rfl (pure_arith rfl rfl (fun _ => rfl) (fun _ => rfl) rfl (IntWalk.i64_in _ (by omega))) ?_
            refine al_pure rfl rfl rfl (pure_assign rfl (fun _ => rfl)) ?_
            refine al_nil ?_
            refine ⟨k + 1, ?_, ?_, sub_mk (⟨⟨_, rfl, ?_⟩, ⟨⟨_, rfl, ?_⟩, ⟨⟨_, rfl, ?_⟩, ⟨⟨_, rfl, rfl⟩, ⟨⟨_, rfl, rfl⟩, trivial⟩⟩⟩⟩⟩) trivial trivial⟩
            all_goals (first | omega | rfl | exact tx (xi_eq (by omega)))
          · try simp only [n1, n2, n3, n4, n5, n6, n7, n8, n9, n10, n11, n12, n13, n14, n15, n16, Fm.rows_len, Fd.rows_len] at hc4
            refine awp_seq ?_
            refine awp_region ?_
            refine al_pure rfl rfl rfl (pure_cmp rfl rfl (fun _ => rfl) (fun _ => rfl) rfl) ?_
            refine al_pure rfl rfl rfl (pure_assign rfl (fun _ => rfl)) ?_
            refine al_nil ?_
            refine awp_sub (s := { t := [(0, _, _), (1, _, _), (6, _, _), (7, _, _), (8, _, _), (9, _, _), (77, _, _)], bx := [((.l 9), _)], ow := [] }) (sub_mk (⟨⟨_, rfl, rfl⟩, ⟨⟨_, rfl, rfl⟩, ⟨⟨_, rfl, rfl⟩, ⟨⟨_, rfl, rfl⟩, ⟨⟨_, rfl, rfl⟩, ⟨⟨_, rfl, rfl⟩, ⟨⟨_, rfl, rfl⟩, trivial⟩⟩⟩⟩⟩⟩⟩) (⟨⟨_, rfl, rfl⟩, trivial⟩) trivial) ?_
            refine awp_cond rfl (fun hc5 => ?_) (fun hc5 => ?_)
            · try simp only [n1, n2, n3, n4, n5, n6, n7, n8, n9, n10, n11, n12, n13, n14, n15, n16, Fm.rows_len, Fd.rows_len] at hc5
              refine awp_seq ?_
              refine awp_region ?_
              refine al_pure rfl rfl rfl (pure_move rfl (fun _ => rfl)) ?_
              refine al_pure rfl rfl rfl (pure_fieldPtr rfl (fun _ => rfl) rfl rfl) ?_
              refine al_pure rfl rfl rfl (pure_loadBox rfl (fun _ => rfl) rfl rfl rfl rfl) ?_
              refine al_call rfl rfl rfl rfl rfl rfl (fun _ => rfl) (fun _ => rfl) (hrec k (by omega) (by assumption)) rfl ?_
              refine al_pure rfl rfl rfl (pure_move rfl (fun _ => rfl)) ?_
              refine al_pure rfl rfl rfl (pure_extract rfl (fun _ => rfl) rfl) ?_
              refine al_pure rfl rfl rfl (pure_extract rfl (fun _ => rfl) rfl) ?_
              refine al_pure rfl rfl rfl (pure_assign rfl (fun _ => rfl)) ?_
              refine al_pure rfl rfl rfl (pure_assign rfl (fun _ => rfl)) ?_
              refine al_nil ?_
              refine awp_sub (s := { t := [(0, _, _), (1, _, _), (6, _, _), (7, _, _), (8, _, _), (10, _, _), (11, _, _)], bx := [], ow := [] }) (sub_mk (⟨⟨_, rfl, rfl⟩, ⟨⟨_, rfl, rfl⟩, ⟨⟨_, rfl, rfl⟩, ⟨⟨_, rfl, rfl⟩, ⟨⟨_, rfl, rfl⟩, ⟨⟨_, rfl, rfl⟩, ⟨⟨_, rfl, rfl⟩, trivial⟩⟩⟩⟩⟩⟩⟩) trivial trivial) ?_
              refine awp_region ?_
              refine al_pure rfl rfl rfl (pure_move rfl (fun _ => rfl)) ?_
              refine al_pure rfl rfl rfl (pure_arith rfl rfl (fun _ => rfl) (fun _ => rfl) rfl (IntWalk.i64_in _ (by omega))) ?_
              refine al_pure rfl rfl rfl (pure_move rfl (fun _ => rfl)) ?_
              refine al_pure rfl rfl rfl (pure_arith rfl rfl (fun _ => rfl) (fun _ => rfl) rfl (IntWalk.i64_in _ (by omega))) ?_
              refine al_pure rfl rfl rfl (pure_move rfl (fun _ => rfl)) ?_
              refine al_pure rfl rfl rfl (pure_arith rfl rfl (fun _ => rfl) (fun _ => rfl) rfl (IntWalk.i64_in _ (by omega))) ?_
              refine al_pure rfl rfl rfl (pure_move rfl (fun _ => rfl)) ?_
              refine al_pure rfl rfl rfl (pure_arith rfl rfl (fun _ => rfl) (fun _ => rfl) rfl (IntWalk.i64_in _ (by omega))) ?_
              refine al_pure rfl rfl rfl (pure_assign rfl (fun _ => rfl)) ?_
              refine al_pure rfl rfl rfl (pure_assign rfl (fun _ => rfl)) ?_
              refine al_nil ?_
              refine awp_sub (s := { t := [(0, _, _), (1, _, _), (6, _, _), (7, _, _), (8, _, _)], bx := [], ow := [] }) (sub_mk (⟨⟨_, rfl, rfl⟩, ⟨⟨_, rfl, rfl⟩, ⟨⟨_, rfl, rfl⟩, ⟨⟨_, rfl, rfl⟩, ⟨⟨_, rfl, rfl⟩, trivial⟩⟩⟩⟩⟩) trivial trivial) ?_
              refine awp_region ?_
              refine al_pure rfl rfl rfl (pure_move rfl (fun _ => rfl)) ?_
              refine al_pure rfl rfl rfl (pure_arith rfl rfl (fun _ => rfl) (fun _ => rfl) rfl (IntWalk.i64_in _ (by omega))) ?_
              refine al_pure rfl rfl rfl (pure_assign rfl (fun _ => rfl)) ?_
              refine al_nil ?_
              refine ⟨k + 1, ?_, ?_, sub_mk (⟨⟨_, rfl, ?_⟩, ⟨⟨_, rfl, ?_⟩, ⟨⟨_, rfl, ?_⟩, ⟨⟨_, rfl, rfl⟩, ⟨⟨_, rfl, rfl⟩, trivial⟩⟩⟩⟩⟩) trivial trivial⟩
              all_goals (first | omega | rfl | exact tx (xi_eq (by omega)))
            · try simp only [n1, n2, n3, n4, n5, n6, n7, n8, n9, n10, n11, n12, n13, n14, n15, n16, Fm.rows_len, Fd.rows_len] at hc5
              refine awp_drawn' (by kernel_rfl) ?_
              refine dr_pure rfl rfl rfl rfl (pure_move rfl (fun _ => rfl)) ?_
              refine dr_pure rfl rfl rfl rfl (pure_fieldPtr rfl (fun _ => rfl) rfl rfl) ?_
              refine dr_load rfl rfl rfl rfl rfl rfl rfl (fun _ => rfl) rfl rfl rfl rfl ?_
              refine dr_pure rfl rfl rfl rfl (pure_arith rfl rfl (fun _ => rfl) (fun _ => rfl) rfl (IntWalk.i64_in _ (by omega))) ?_
              refine dr_pure rfl rfl rfl rfl (pure_move rfl (fun _ => rfl)) ?_
              refine dr_pure rfl rfl rfl rfl (pure_fieldPtr rfl (fun _ => rfl) rfl rfl) ?_
              refine dr_load rfl rfl rfl rfl rfl rfl rfl (fun _ => rfl) rfl rfl rfl rfl ?_
              refine dr_pure rfl rfl rfl rfl (pure_arith rfl rfl (fun _ => rfl) (fun _ => rfl) rfl (IntWalk.i64_in _ (by omega))) ?_
              refine dr_pure rfl rfl rfl rfl (pure_assign rfl (fun _ => rfl)) ?_
              refine dr_pure rfl rfl rfl rfl (pure_assign rfl (fun _ => rfl)) ?_
              refine dr_nil (by kernel_rfl) ?_
              refine awp_sub (s := { t := [(0, _, _), (1, _, _), (6, _, _), (7, _, _), (8, _, _)], bx := [], ow := [] }) (sub_mk (⟨⟨_, rfl, rfl⟩, ⟨⟨_, rfl, rfl⟩, ⟨⟨_, rfl, rfl⟩, ⟨⟨_, rfl, rfl⟩, ⟨⟨_, rfl, rfl⟩, trivial⟩⟩⟩⟩⟩) trivial trivial) ?_
              refine awp_region ?_
              refine al_pure rfl rfl rfl (pure_move rfl (fun _ => rfl)) ?_
              refine al_pure rfl rfl rfl (pure_arith rfl rfl (fun _ => rfl) (fun _ => rfl) rfl (IntWalk.i64_in _ (by omega))) ?_
              refine al_pure rfl rfl rfl (pure_assign rfl (fun _ => rfl)) ?_
              refine al_nil ?_
              refine ⟨k + 1, ?_, ?_, sub_mk (⟨⟨_, rfl, ?_⟩, ⟨⟨_, rfl, ?_⟩, ⟨⟨_, rfl, ?_⟩, ⟨⟨_, rfl, rfl⟩, ⟨⟨_, rfl, rfl⟩, trivial⟩⟩⟩⟩⟩) trivial trivial⟩
              all_goals (first | omega | rfl | exact tx (xi_eq (by omega)))
  · try simp only [n1, n2, n3, n4, n5, n6, n7, n8, n9, n10, n11, n12, n13, n14, n15, n16, Fm.rows_len, Fd.rows_len] at hc
    refine awp_exit ?_
    repeat (first | refine thenS_exit ?_ | refine blockS_hit ?_ | refine blockS_miss rfl ?_)
    refine awp_seq ?_
    refine awp_region ?_
    refine al_pure rfl rfl rfl (pure_move rfl (fun _ => rfl)) ?_
    refine al_pure rfl rfl rfl (pure_move rfl (fun _ => rfl)) ?_
    refine al_pure rfl rfl rfl (pure_assign rfl (fun _ => rfl)) ?_
    refine al_pure rfl rfl rfl (pure_assign rfl (fun _ => rfl)) ?_
    refine al_nil ?_
    refine awp_ret ?_
    repeat (first | refine thenS_ret ?_ | refine blockS_ret ?_)
    refine ret_ok rfl ?_ trivial
    have : k = (t.getD i.toNat default).fields.length := by omega
    rw [this, List.take_length]
    rfl
theorem rlen_spec (t : List Fm) (i : Int) (hi : 0 ≤ i ∧ i < t.length) (h : Fds t (t.getD i.toNat default).fields) : Ctr sys 49 [xtab t, xi i] [] (xii (bndT t i)) none [] := by
  refine rlen_gen t i (bnd0 t) hi h.len.2 h.ok h.bnd (fun k hk => h.bndF hk) fun k hk h5 => ?_
  obtain ⟨h1, h2⟩ := h.nest k hk h5
  have h3 := (h.ok k hk).n
  refine rlen_gen t _ (fun _ => (0, 0)) (by omega) h2.len.2 (fun j hj => (h2.ok j hj).1) (fun j => by have := h2.bnd (rec := fun _ => (0, 0)) j; omega) (fun j hj => ?_) fun j hj h6 => absurd h6 (h2.ok j hj).2.1
  rw [bndF_eq (h2.ok j hj).2.1]
  have := bnd1_le (h2.ok j hj).1
  omega
theorem rBounds_spec (t : List Fm) (i : Int) : Ctr sys 32 [xtab t, xi i] [] (xiie (boundsE t i)) none [] := by
  have hrl := Fm.rows_len t
  refine spec_intro Try.func32 rfl rfl rfl rfl rfl rfl ?_
  refine awp_seq ?_
  refine awp_region ?_
  refine al_pure rfl rfl rfl (pure_assign rfl (fun _ => rfl)) ?_
  refine al_pure rfl rfl rfl (pure_assign rfl (fun _ => rfl)) ?_
  refine al_pure rfl rfl rfl (pure_assign rfl (fun _ => rfl)) ?_
  refine al_nil ?_
  refine awp_seq ?_
  refine awp_seq ?_
  refine awp_region ?_
  refine al_pure rfl rfl rfl (pure_move rfl (fun _ => rfl)) ?_
  refine al_pure rfl rfl rfl (pure_move rfl (fun _ => rfl)) ?_
  refine al_call rfl rfl rfl rfl rfl rfl (fun _ => rfl) (fun _ => rfl) (rError_spec _ _) rfl ?_
  refine al_pure rfl rfl rfl (pure_assign rfl (fun _ => rfl)) ?_
  refine al_nil ?_
  refine awp_sub (s := { t := [(0, _, _), (1, _, _), (7, _, _)], bx := [], ow := [] }) (sub_mk (⟨⟨_, rfl, rfl⟩, ⟨⟨_, rfl, rfl⟩, ⟨⟨_, rfl, rfl⟩, trivial⟩⟩⟩) trivial trivial) ?_
  refine awp_seq ?_
  refine awp_region ?_
  refine al_pure rfl rfl rfl (pure_move rfl (fun _ => rfl)) ?_
  refine al_pure rfl rfl rfl (pure_cmp rfl rfl (fun _ => rfl) (fun _ => rfl) rfl) ?_
  refine al_nil ?_
  refine awp_cond rfl (fun hc => ?_) (fun hc => ?_)
  · try simp only [n1, n2, n3, n4, n5, n6, n7, n8, n9, n10, n11, n12, n13, n14, n15, n16, Fm.rows_len, Fd.rows_len] at hc
    refine awp_seq ?_
    refine awp_region ?_
    refine al_pure rfl rfl rfl (pure_move rfl (fun _ => rfl)) ?_
    refine al_pure rfl rfl rfl (pure_assign rfl (fun _ => rfl)) ?_
    refine al_pure rfl rfl rfl (pure_assign rfl (fun _ => rfl)) ?_
    refine al_pure rfl rfl rfl (pure_assign rfl (fun _ => rfl)) ?_
    refine al_nil ?_
    refine awp_ret ?_
    repeat (first | refine thenS_ret ?_ | refine blockS_ret ?_)
    refine ret_ok rfl ?_ trivial
    exact xiie_eq (by simp [boundsE, *]) (by simp [boundsE, *]) (by simp [boundsE, *])
  · try simp only [n1, n2, n3, n4, n5, n6, n7, n8, n9, n10, n11, n12, n13, n14, n15, n16, Fm.rows_len, Fd.rows_len] at hc
    refine awp_skip ?_
    refine awp_seq ?_
    refine awp_region ?_
    refine al_pure rfl rfl rfl (pure_move rfl (fun _ => rfl)) ?_
    refine al_pure rfl rfl rfl (pure_move rfl (fun _ => rfl)) ?_
    refine al_call rfl rfl rfl rfl rfl rfl (fun _ => rfl) (fun _ => rfl) (rlen_spec _ _ (errE_zero hc).2 ((errE_zero hc).1.fds (by have := (errE_zero hc).2; omega))) rfl ?_
    refine al_pure rfl rfl rfl (pure_move rfl (fun _ => rfl)) ?_
    refine al_pure rfl rfl rfl (pure_extract rfl (fun _ => rfl) rfl) ?_
    refine al_pure rfl rfl rfl (pure_extract rfl (fun _ => rfl) rfl) ?_
    refine al_pure rfl rfl rfl (pure_assign rfl (fun _ => rfl)) ?_
    refine al_pure rfl rfl rfl (pure_assign rfl (fun _ => rfl)) ?_
    refine al_nil ?_
    refine awp_sub (s := { t := [(8, _, _), (9, _, _)], bx := [], ow := [] }) (sub_mk (⟨⟨_, rfl, rfl⟩, ⟨⟨_, rfl, rfl⟩, trivial⟩⟩) trivial trivial) ?_
    refine awp_seq ?_
    refine awp_region ?_
    refine al_pure rfl rfl rfl (pure_move rfl (fun _ => rfl)) ?_
    refine al_pure rfl rfl rfl (pure_move rfl (fun _ => rfl)) ?_
    refine al_pure rfl rfl rfl (pure_assign rfl (fun _ => rfl)) ?_
    refine al_pure rfl rfl rfl (pure_assign rfl (fun _ => rfl)) ?_
    refine al_pure rfl rfl rfl (pure_assign rfl (fun _ => rfl)) ?_
    refine al_nil ?_
    refine awp_ret ?_
    repeat (first | refine thenS_ret ?_ | refine blockS_ret ?_)
    refine ret_ok rfl ?_ trivial
    exact xiie_eq (by simp [boundsE, *]) (by simp [boundsE, *]) (by simp [boundsE, *])
end Go.Proofs.Ytgjclggjkhapfaa
/- Lists of strings and numbers: as rows of cells (plain). -/
set_option linter.unusedVariables false
set_option linter.unusedSimpArgs false
namespace Go.Proofs.Ytgjclggjkhapfaa
open Go Go.Abs
def strR (l : List (List UInt8)) : List (List C) := l.map fun s => [.s s]
theorem strR_len (l : List (List UInt8)) : (strR l).length = l.length := by simp [strR]
theorem strR_at {l : List (List UInt8)} {k : Nat} (h : k < l.length) : (strR l)[k]? = some [.s (l.getD k [])] := by
  rw [strR, List.getElem?_map, List.getD_eq_getElem?_getD, List.getElem?_eq_getElem h]; rfl
theorem strR_app (a b : List (List UInt8)) : strR (a ++ b) = strR a ++ strR b := by simp [strR]
abbrev xss (l : List (List UInt8)) : X := .v (.c (.sl 1 (strR l)))
def intR (l : List Int) : List (List C) := l.map fun n => [.i .i64 n]
theorem intR_len (l : List Int) : (intR l).length = l.length := by simp [intR]
theorem intR_at {l : List Int} {k : Nat} (h : k < l.length) : (intR l)[k]? = some [.i .i64 (l.getD k 0)] := by
  rw [intR, List.getElem?_map, List.getD_eq_getElem?_getD, List.getElem?_eq_getElem h]; rfl
theorem intR_app (a b : List Int) : intR (a ++ b) = intR a ++ intR b := by simp [intR]
abbrev xis (l : List Int) : X := .v (.c (.sl 1 (intR l)))
theorem bytesR_at {l : List UInt8} {k : Nat} (h : k < l.length) : (bytesR l)[k]? = some [.i .u8 ((l.getD k 0).toNat : Int)] := by
  rw [bytesR, List.getElem?_map, List.getD_eq_getElem?_getD, List.getElem?_eq_getElem h]; rfl
abbrev xbs (l : List UInt8) : X := .v (.c (.sl 1 (bytesR l)))
theorem xss_snoc (l : List (List UInt8)) (s : List UInt8) : X.v (.c (.sl 1 (strR l ++ [[.s s]]))) = xss (l ++ [s]) := by simp [xss, strR]
theorem xis_snoc (l : List Int) (n : Int) : X.v (.c (.sl 1 (intR l ++ [[.i .i64 n]]))) = xis (l ++ [n]) := by simp [xis, intR]
theorem xbs_snoc (l : List UInt8) (b : UInt8) (n : Int) (h : (b.toNat : Int) = n) : X.v (.c (.sl 1 (bytesR l ++ [[.i .u8 n]]))) = xbs (l ++ [b]) := by simp [xbs, bytesR, h]
theorem getD_take {α : Type} (l : List α) (d : α) {j k : Nat} (h : j < k) : (l.take k).getD j d = l.getD j d := by
  simp only [List.getD_eq_getElem?_getD]; rw [List.getElem?_take, if_pos h]
theorem getD_drop {α : Type} (l : List α) (d : α) (j k : Nat) : (l.drop k).getD j d = l.getD (k + j) d := by
  simp only [List.getD_eq_getElem?_getD]; rw [List.getElem?_drop]
theorem take_getD {α : Type} {l : List α} {d : α} {k : Nat} (h : k < l.length) : l.take (k + 1) = l.take k ++ [l.getD k d] := by
  rw [List.take_add_one, List.getD_eq_getElem?_getD, List.getElem?_eq_getElem h]; rfl
theorem dropD {α : Type} {l : List α} {d : α} {k : Nat} (h : k < l.length) : l.drop k = l.getD k d :: l.drop (k + 1) := by
  rw [List.drop_eq_getElem_cons h, List.getD_eq_getElem?_getD, List.getElem?_eq_getElem h]; rfl
/-- The parts of a string between separators, as the loop goes. -/
def splitF (s sep : List UInt8) : Nat → Nat → Nat → List (List UInt8) → List (List UInt8)
  | 0, _, b, out => out ++ [s.drop b]
  | n + 1, i, b, out => if i + sep.length ≤ s.length then
      (if b ≤ i ∧ (s.take (i + sep.length)).drop i = sep then splitF s sep n (i + 1) (i + sep.length) (out ++ [(s.take i).drop b]) else splitF s sep n (i + 1) b out)
    else out ++ [s.drop b]
def splitE (s sep : List UInt8) : List (List UInt8) := splitF s sep (s.length + 1) 0 0 []
theorem splitF_one (s sep : List UInt8) : ∀ (n i b : Nat) (out : List (List UInt8)), out.length + 1 ≤ (splitF s sep n i b out).length ∧ (splitF s sep n i b out).length ≤ out.length + n + 1
  | 0, _, _, out => by simp [splitF]
  | n + 1, i, b, out => by
    rw [splitF]
    split
    · split
      · have := splitF_one s sep n (i + 1) (i + sep.length) (out ++ [(s.take i).drop b]); simp at this; omega
      · have := splitF_one s sep n (i + 1) b out; omega
    · simp
theorem splitF_mem (s sep : List UInt8) : ∀ (n i b : Nat) (out : List (List UInt8)), (∀ x ∈ out, x.length ≤ s.length) → ∀ x ∈ splitF s sep n i b out, x.length ≤ s.length
  | 0, _, b, out, h, x, hx => by
    rw [splitF] at hx
    rcases List.mem_append.1 hx with hx | hx
    · exact h x hx
    · simp at hx; subst hx; simp
  | n + 1, i, b, out, h, x, hx => by
    rw [splitF] at hx
    split at hx
    · split at hx
      · refine splitF_mem s sep n _ _ _ (fun y hy => ?_) x hx
        rcases List.mem_append.1 hy with hy | hy
        · exact h y hy
        · simp at hy; subst hy; simp; omega
      · exact splitF_mem s sep n _ _ _ h x hx
    · rcases List.mem_append.1 hx with hx | hx
      · exact h x hx
      · simp at hx; subst hx; simp
theorem splitE_len (s sep : List UInt8) : 1 ≤ (splitE s sep).length ∧ (splitE s sep).length ≤ s.length + 2 := by
  have := splitF_one s sep (s.length + 1) 0 0 []; simp at this; unfold splitE; omega
theorem splitE_get (s sep : List UInt8) (k : Nat) : ((splitE s sep).getD k []).length ≤ s.length := by
  rw [List.getD_eq_getElem?_getD]
  cases h : (splitE s sep)[k]? with
  | none => simp
  | some x => exact splitF_mem s sep _ _ _ _ (by simp) x (List.mem_of_getElem? h)
/-- Hexadecimal digits. -/
def hexB (b : UInt8) : Bool := (decide (48 ≤ (b.toNat : Int)) && decide ((b.toNat : Int) ≤ 57)) || (decide (97 ≤ (b.toNat : Int)) && decide ((b.toNat : Int) ≤ 102))
def hexV (b : UInt8) : Int := if (b.toNat : Int) ≤ 57 then b.toNat - 48 else b.toNat - 87
def unhexF : List UInt8 → List UInt8 → List UInt8 × Bool
  | a :: b :: l, out => if hexB a = true ∧ hexB b = true then unhexF l (out ++ [UInt8.ofNat (16 * hexV a + hexV b).toNat]) else ([], false)
  | [_], out => (out, false)
  | [], out => (out, true)
def numF : Int → List UInt8 → Int
  | n, [] => n
  | n, b :: l => if (b.toNat : Int) < 48 ∨ 57 < (b.toNat : Int) then -1 else numF (10 * n + (b.toNat - 48)) l
def numE (s : List UInt8) : Int := if s.length = 0 ∨ 6 < s.length ∨ (1 < s.length ∧ (s.getD 0 0).toNat = 48) then -1 else numF 0 s
def pw10 (k : Nat) : Int := 10 ^ k
theorem pw10_succ (k : Nat) : pw10 (k + 1) = 10 * pw10 k := by simp [pw10, Int.pow_succ, Int.mul_comm]
theorem pw10_le {k : Nat} (h : k ≤ 6) : 1 ≤ pw10 k ∧ pw10 k ≤ 1000000 := by
  match k, h with
  | 0, _ => decide
  | 1, _ => decide
  | 2, _ => decide
  | 3, _ => decide
  | 4, _ => decide
  | 5, _ => decide
  | 6, _ => decide
end Go.Proofs.Ytgjclggjkhapfaa
/- Contracts: the reference's parts of texts. -/
set_option linter.unusedVariables false
set_option linter.unusedSimpArgs false
namespace Go.Proofs.Ytgjclggjkhapfaa
open Go Go.Abs
theorem split_spec (s sep : List UInt8) (hs : s.length ≤ 10000) (hp : 1 ≤ sep.length) (hp2 : sep.length ≤ 100) : Ctr sys 51 [xs s, xs sep] [] (xss (splitE s sep)) none [] := by
  refine spec_intro Try.func51 rfl rfl rfl rfl rfl rfl ?_
  refine awp_seq ?_
  refine awp_region ?_
  refine al_do rfl (does_nil (.inr rfl) rfl rfl) ?_
  refine al_nil ?_
  refine awp_seq ?_
  refine awp_region ?_
  refine al_do rfl (does_nil (.inr rfl) rfl rfl) ?_
  refine al_nil ?_
  refine awp_seq ?_
  refine awp_region ?_
  refine al_pure rfl rfl rfl (pure_assign rfl (fun _ => rfl)) ?_
  refine al_nil ?_
  refine awp_seq ?_
  refine awp_seq ?_
  refine awp_region ?_
  refine al_pure rfl rfl rfl (pure_assign rfl (fun _ => rfl)) ?_
  refine al_nil ?_
  refine awp_block ?_
  refine awp_for (ι := Nat × Nat × List (List UInt8)) { t := [(0, _, _), (1, _, _)], bx := [], ow := [((.t 5), _)] } (fun p => [(7, true, xi (p.1 : Int)), (6, true, xi (p.2.1 : Int)), (5, true, xss p.2.2)]) (fun p => []) (fun p => p.1 ≤ s.length ∧ p.2.1 ≤ s.length ∧ p.2.2.length ≤ p.1 ∧ splitF s sep (s.length + 1 - p.1) p.1 p.2.1 p.2.2 = splitE s sep) (fun p => s.length + 1 - p.1) ((0, 0, [])) (⟨by simp, by simp, by simp, rfl⟩) (sub_mk (⟨⟨_, rfl, rfl⟩, ⟨⟨_, rfl, rfl⟩, ⟨⟨_, rfl, rfl⟩, ⟨⟨_, rfl, rfl⟩, ⟨⟨_, rfl, rfl⟩, trivial⟩⟩⟩⟩⟩) trivial (⟨rfl, trivial⟩)) ?_
  intro p hok
  dsimp only [List.cons_append, List.nil_append] at *
  obtain ⟨i, b, out⟩ := p
  dsimp only at hok ⊢
  obtain ⟨h1, h2, h3, h4⟩ := hok
  rw [show s.length + 1 - i = (s.length - i) + 1 by omega, splitF] at h4
  refine awp_seq ?_
  refine awp_seq ?_
  refine awp_region ?_
  refine al_pure rfl rfl rfl (pure_move rfl (fun _ => rfl)) ?_
  refine al_pure rfl rfl rfl (pure_move rfl (fun _ => rfl)) ?_
  refine al_lenS rfl rfl rfl rfl rfl (fun _ => rfl) (Try.underlying9) ?_ (fun hh => by simp at hh); intro hlen
  refine al_pure rfl rfl rfl (pure_arith rfl rfl (fun _ => rfl) (fun _ => rfl) rfl (IntWalk.i64_in _ (by omega))) ?_
  refine al_pure rfl rfl rfl (pure_move rfl (fun _ => rfl)) ?_
  refine al_lenS rfl rfl rfl rfl rfl (fun _ => rfl) (Try.underlying9) ?_ (fun hh => by simp at hh); intro hlen
  refine al_pure rfl rfl rfl (pure_cmp rfl rfl (fun _ => rfl) (fun _ => rfl) rfl) ?_
  refine al_nil ?_
  refine awp_sub (s := { t := [(0, _, _), (1, _, _), (5, _, _), (6, _, _), (7, _, _), (14, _, _)], bx := [], ow := [((.t 5), _)] }) (sub_mk (⟨⟨_, rfl, rfl⟩, ⟨⟨_, rfl, rfl⟩, ⟨⟨_, rfl, rfl⟩, ⟨⟨_, rfl, rfl⟩, ⟨⟨_, rfl, rfl⟩, ⟨⟨_, rfl, rfl⟩, trivial⟩⟩⟩⟩⟩⟩) trivial (⟨rfl, trivial⟩)) ?_
  refine awp_cond rfl (fun hc => ?_) (fun hc => ?_)
  · try simp only [n1, n2, n3, n4, n5, n6, n7, n8, n9, n10, n11, n12, n13, n14, n15, n16] at hc
    rw [if_pos (by omega)] at h4
    refine awp_skip ?_
    refine awp_seq ?_
    refine awp_block ?_
    refine awp_seq ?_
    refine awp_region ?_
    refine al_pure rfl rfl rfl (pure_move rfl (fun _ => rfl)) ?_
    refine al_pure rfl rfl rfl (pure_move rfl (fun _ => rfl)) ?_
    refine al_pure rfl rfl rfl (pure_cmp rfl rfl (fun _ => rfl) (fun _ => rfl) rfl) ?_
    refine al_pure rfl rfl rfl (pure_move rfl (fun _ => rfl)) ?_
    refine al_pure rfl rfl rfl (pure_move rfl (fun _ => rfl)) ?_
    refine al_pure rfl rfl rfl (pure_move rfl (fun _ => rfl)) ?_
    refine al_pure rfl rfl rfl (pure_move rfl (fun _ => rfl)) ?_
    refine al_pure rfl rfl rfl (pure_move rfl (fun _ => rfl)) ?_
    refine al_pure rfl rfl rfl (pure_lenS rfl (fun hh => hh) (Try.underlying9)) ?_
    refine al_pure rfl rfl rfl (pure_arith rfl rfl (fun hh => hh) (fun hh => hh) rfl (IntWalk.i64_in _ (by omega))) ?_
    refine al_pure rfl rfl rfl (pure_sliceS (l := i) (h' := (i + sep.length)) rfl (fun hh => hh) Try.underlying9 (fun _ => ⟨_, _, _, rfl, (fun hh => hh), by omega⟩) (fun _ => ⟨_, _, _, rfl, (fun hh => hh), by omega⟩) (fun hh => by omega) (fun hh => by omega)) ?_
    refine al_pure rfl rfl rfl (pure_move rfl (fun _ => rfl)) ?_
    refine al_sub (s := { t := [(0, _, _), (1, _, _), (5, _, _), (6, _, _), (7, _, _), (20, _, _), (27, _, _), (28, _, _)], bx := [], ow := [((.t 5), _)] }) (sub_mk (⟨⟨_, rfl, rfl⟩, ⟨⟨_, rfl, rfl⟩, ⟨⟨_, rfl, rfl⟩, ⟨⟨_, rfl, rfl⟩, ⟨⟨_, rfl, rfl⟩, ⟨⟨_, rfl, rfl⟩, ⟨⟨_, rfl, rfl⟩, ⟨⟨_, rfl, rfl⟩, trivial⟩⟩⟩⟩⟩⟩⟩⟩) trivial (⟨rfl, trivial⟩)) ?_
    refine al_pure rfl rfl rfl (pure_cmpS rfl rfl (fun hh => hh) (fun hh => hh) rfl) ?_
    refine al_pure rfl rfl rfl (pure_and rfl rfl (fun _ => rfl) (fun _ hi => gP rfl hi)) ?_
    refine al_nil ?_
    refine awp_cond rfl (fun hc2 => ?_) (fun hc2 => ?_)
    · try simp only [n1, n2, n3, n4, n5, n6, n7, n8, n9, n10, n11, n12, n13, n14, n15, n16] at hc2
      rw [if_pos (by refine ⟨by omega, hc2.2⟩)] at h4
      refine awp_seq ?_
      refine awp_region ?_
      refine al_do rfl (does_take (.inl rfl) rfl rfl rfl) ?_
      refine al_pure rfl rfl rfl (pure_move rfl (fun _ => rfl)) ?_
      refine al_pure rfl rfl rfl (pure_move rfl (fun _ => rfl)) ?_
      refine al_pure rfl rfl rfl (pure_move rfl (fun _ => rfl)) ?_
      refine al_pure rfl rfl rfl (pure_sliceS (l := b) (h' := i) rfl (fun _ => rfl) Try.underlying9 (fun _ => ⟨_, _, _, rfl, (fun _ => rfl), by omega⟩) (fun _ => ⟨_, _, _, rfl, (fun _ => rfl), by omega⟩) (fun hh => by omega) (fun hh => by omega)) ?_
      refine al_buildSlice (xs := [_]) rfl rfl rfl rfl rfl rfl rfl rfl rfl (fun _ => rfl) rfl ?_
      refine al_do rfl (does_append rfl rfl rfl rfl rfl rfl rfl (by simp [strR_len]; omega) (by simp [strR_len]; omega)) ?_
      refine al_do rfl (does_take (.inr rfl) rfl rfl rfl) ?_
      refine al_nil ?_
      refine awp_sub (s := { t := [(0, _, _), (1, _, _), (5, _, _), (7, _, _)], bx := [], ow := [((.t 5), _)] }) (sub_mk (⟨⟨_, rfl, rfl⟩, ⟨⟨_, rfl, rfl⟩, ⟨⟨_, rfl, rfl⟩, ⟨⟨_, rfl, rfl⟩, trivial⟩⟩⟩⟩) trivial (⟨rfl, trivial⟩)) ?_
      refine awp_region ?_
      refine al_pure rfl rfl rfl (pure_move rfl (fun _ => rfl)) ?_
      refine al_pure rfl rfl rfl (pure_move rfl (fun _ => rfl)) ?_
      refine al_lenS rfl rfl rfl rfl rfl (fun _ => rfl) (Try.underlying9) ?_ (fun hh => by simp at hh); intro hlen
      refine al_pure rfl rfl rfl (pure_arith rfl rfl (fun _ => rfl) (fun _ => rfl) rfl (IntWalk.i64_in _ (by omega))) ?_
      refine al_pure rfl rfl rfl (pure_assign rfl (fun _ => rfl)) ?_
      refine al_nil ?_
      refine awp_sub (s := { t := [(0, _, _), (1, _, _), (5, _, _), (6, _, _), (7, _, _)], bx := [], ow := [((.t 5), _)] }) (sub_mk (⟨⟨_, rfl, rfl⟩, ⟨⟨_, rfl, rfl⟩, ⟨⟨_, rfl, rfl⟩, ⟨⟨_, rfl, rfl⟩, ⟨⟨_, rfl, rfl⟩, trivial⟩⟩⟩⟩⟩) trivial (⟨rfl, trivial⟩)) ?_
      refine awp_region ?_
      refine al_pure rfl rfl rfl (pure_move rfl (fun _ => rfl)) ?_
      refine al_pure rfl rfl rfl (pure_arith rfl rfl (fun _ => rfl) (fun _ => rfl) rfl (IntWalk.i64_in _ (by omega))) ?_
      refine al_pure rfl rfl rfl (pure_assign rfl (fun _ => rfl)) ?_
      refine al_nil ?_
      refine ⟨(i + 1, i + sep.length, out ++ [(s.take i).drop b]), ?_, ?_, sub_mk (⟨⟨_, rfl, ?_⟩, ⟨⟨_, rfl, ?_⟩, ⟨⟨_, rfl, ?_⟩, ⟨⟨_, rfl, rfl⟩, ⟨⟨_, rfl, rfl⟩, trivial⟩⟩⟩⟩⟩) trivial (⟨rfl, trivial⟩)⟩
      · refine ⟨by dsimp only; omega, by dsimp only; omega, by simp; omega, ?_⟩
        rw [← h4]; dsimp only; congr 1; omega
      · dsimp only; omega
      · rfl
      · rfl
      · exact tx (xss_snoc _ _)
    · try simp only [n1, n2, n3, n4, n5, n6, n7, n8, n9, n10, n11, n12, n13, n14, n15, n16] at hc2
      rw [if_neg (by grind)] at h4
      refine awp_skip ?_
      refine awp_region ?_
      refine al_pure rfl rfl rfl (pure_move rfl (fun _ => rfl)) ?_
      refine al_pure rfl rfl rfl (pure_arith rfl rfl (fun _ => rfl) (fun _ => rfl) rfl (IntWalk.i64_in _ (by omega))) ?_
      refine al_pure rfl rfl rfl (pure_assign rfl (fun _ => rfl)) ?_
      refine al_nil ?_
      refine ⟨(i + 1, b, out), ?_, ?_, sub_mk (⟨⟨_, rfl, ?_⟩, ⟨⟨_, rfl, ?_⟩, ⟨⟨_, rfl, ?_⟩, ⟨⟨_, rfl, rfl⟩, ⟨⟨_, rfl, rfl⟩, trivial⟩⟩⟩⟩⟩) trivial (⟨rfl, trivial⟩)⟩
      · refine ⟨by dsimp only; omega, by dsimp only; omega, by dsimp only; omega, ?_⟩
        rw [← h4]; dsimp only; congr 1; omega
      · dsimp only; omega
      · rfl
      · rfl
      · rfl
  · try simp only [n1, n2, n3, n4, n5, n6, n7, n8, n9, n10, n11, n12, n13, n14, n15, n16] at hc
    rw [if_neg (by omega)] at h4
    refine awp_exit ?_
    repeat (first | refine thenS_exit ?_ | refine blockS_hit ?_ | refine blockS_miss rfl ?_)
    refine awp_seq ?_
    refine awp_region ?_
    refine al_do rfl (does_take (.inl rfl) rfl rfl rfl) ?_
    refine al_pure rfl rfl rfl (pure_move rfl (fun _ => rfl)) ?_
    refine al_pure rfl rfl rfl (pure_move rfl (fun _ => rfl)) ?_
    refine al_pure rfl rfl rfl (pure_sliceS (l := b) rfl (fun _ => rfl) Try.underlying9 (fun _ => ⟨_, _, _, rfl, (fun _ => rfl), by omega⟩) (fun _ => rfl) (fun hh => by omega) (fun hh => by omega)) ?_
    refine al_buildSlice (xs := [_]) rfl rfl rfl rfl rfl rfl rfl rfl rfl (fun _ => rfl) rfl ?_
    refine al_do rfl (does_append rfl rfl rfl rfl rfl rfl rfl (by simp [strR_len]; omega) (by simp [strR_len]; omega)) ?_
    refine al_do rfl (does_take (.inr rfl) rfl rfl rfl) ?_
    refine al_nil ?_
    refine awp_ret ?_
    repeat (first | refine thenS_ret ?_ | refine blockS_ret ?_)
    refine ret_ok rfl ?_ trivial
    rw [← h4]
    refine Eq.trans ?_ (xss_snoc _ _)
    rw [List.take_length]
    rfl
theorem number_spec (s : List UInt8) : Ctr sys 76 [xs s] [] (xi (numE s)) none [] := by
  refine spec_intro Try.func76 rfl rfl rfl rfl rfl rfl ?_
  refine awp_seq ?_
  refine awp_region ?_
  refine al_pure rfl rfl rfl (pure_assign rfl (fun _ => rfl)) ?_
  refine al_nil ?_
  refine awp_seq ?_
  refine awp_seq ?_
  refine awp_region ?_
  refine al_pure rfl rfl rfl (pure_move rfl (fun _ => rfl)) ?_
  refine al_lenS rfl rfl rfl rfl rfl (fun _ => rfl) (Try.underlying9) ?_ (fun hh => by simp at hh); intro hlen
  refine al_pure rfl rfl rfl (pure_cmp rfl rfl (fun _ => rfl) (fun _ => rfl) rfl) ?_
  refine al_pure rfl rfl rfl (pure_move rfl (fun _ => rfl)) ?_
  refine al_pure rfl rfl rfl (pure_move rfl (fun _ => rfl)) ?_
  refine al_pure rfl rfl rfl (pure_lenS rfl (fun hh => hh) (Try.underlying9)) ?_
  refine al_pure rfl rfl rfl (pure_cmp rfl rfl (fun hh => hh) (fun _ => rfl) rfl) ?_
  refine al_pure rfl rfl rfl (pure_or rfl rfl (fun _ => rfl) (fun _ hi => gP rfl hi)) ?_
  refine al_pure rfl rfl rfl (pure_move rfl (fun _ => rfl)) ?_
  refine al_pure rfl rfl rfl (pure_move rfl (fun _ => rfl)) ?_
  refine al_pure rfl rfl rfl (pure_lenS rfl (fun hh => hh) (Try.underlying9)) ?_
  refine al_sub (s := { t := [(0, _, _), (13, _, _), (15, _, _)], bx := [], ow := [] }) (sub_mk (⟨⟨_, rfl, rfl⟩, ⟨⟨_, rfl, rfl⟩, ⟨⟨_, rfl, rfl⟩, trivial⟩⟩⟩) trivial trivial) ?_
  refine al_pure rfl rfl rfl (pure_cmp rfl rfl (fun hh => hh) (fun _ => rfl) rfl) ?_
  refine al_pure rfl rfl rfl (pure_move rfl (fun hh => hh)) ?_
  refine al_pure rfl rfl rfl (pure_move rfl (fun _ => rfl)) ?_
  refine al_pure rfl rfl rfl (pure_indexSg (j := 0) rfl rfl (fun hh => hh) (fun _ => rfl) Try.underlying9 (by first | omega | (simp at hh; omega)) (fun hh => by first | omega | (simp at hh; omega))) ?_
  refine al_pure rfl rfl rfl (pure_cmp rfl rfl (fun hh => hh) (fun _ => rfl) rfl) ?_
  refine al_pure rfl rfl rfl (pure_and rfl rfl (fun hh => hh) (fun hh hi => gP hh hi)) ?_
  refine al_pure rfl rfl rfl (pure_or rfl rfl (fun _ => rfl) (fun _ hi => gP rfl hi)) ?_
  refine al_nil ?_
  refine awp_sub (s := { t := [(0, _, _), (22, _, _)], bx := [], ow := [] }) (sub_mk (⟨⟨_, rfl, rfl⟩, ⟨⟨_, rfl, rfl⟩, trivial⟩⟩) trivial trivial) ?_
  refine awp_cond rfl (fun hc => ?_) (fun hc => ?_)
  · try simp only [n1, n2, n3, n4, n5, n6, n7, n8, n9, n10, n11, n12, n13, n14, n15, n16] at hc
    refine awp_seq ?_
    refine awp_region ?_
    refine al_pure rfl rfl rfl (pure_assign rfl (fun _ => rfl)) ?_
    refine al_nil ?_
    refine awp_ret ?_
    repeat (first | refine thenS_ret ?_ | refine blockS_ret ?_)
    refine ret_ok rfl ?_ trivial
    exact xi_eq (by rw [numE, if_pos]; omega)
  · try simp only [n1, n2, n3, n4, n5, n6, n7, n8, n9, n10, n11, n12, n13, n14, n15, n16] at hc
    have hl : 1 ≤ s.length ∧ s.length ≤ 6 := by omega
    have he : numE s = numF 0 s := by rw [numE, if_neg]; omega
    rw [he]
    refine awp_skip ?_
    refine awp_seq ?_
    refine awp_region ?_
    refine al_pure rfl rfl rfl (pure_assign rfl (fun _ => rfl)) ?_
    refine al_nil ?_
    refine awp_seq ?_
    refine awp_seq ?_
    refine awp_region ?_
    refine al_pure rfl rfl rfl (pure_assign rfl (fun _ => rfl)) ?_
    refine al_nil ?_
    refine awp_block ?_
    refine awp_for (ι := Nat × Int) { t := [(0, _, _)], bx := [], ow := [] } (fun p => [(4, true, xi (p.1 : Int)), (3, true, xi p.2)]) (fun p => []) (fun p => p.1 ≤ s.length ∧ 0 ≤ p.2 ∧ p.2 + 1 ≤ pw10 p.1 ∧ numF p.2 (s.drop p.1) = numF 0 s) (fun p => s.length - p.1) ((0, 0)) (⟨by simp, by simp, by simp [pw10], rfl⟩) (sub_mk (⟨⟨_, rfl, rfl⟩, ⟨⟨_, rfl, rfl⟩, ⟨⟨_, rfl, rfl⟩, trivial⟩⟩⟩) trivial trivial) ?_
    intro p hok
    dsimp only [List.cons_append, List.nil_append] at *
    obtain ⟨k, n⟩ := p
    dsimp only at hok ⊢
    obtain ⟨h1, h2, h3, h4⟩ := hok
    have hpw := pw10_le (k := k) (by omega)
    have hpw1 := pw10_succ k
    have hb := (s.getD k 0).toNat_lt
    refine awp_seq ?_
    refine awp_seq ?_
    refine awp_region ?_
    refine al_pure rfl rfl rfl (pure_move rfl (fun _ => rfl)) ?_
    refine al_pure rfl rfl rfl (pure_move rfl (fun _ => rfl)) ?_
    refine al_lenS rfl rfl rfl rfl rfl (fun _ => rfl) (Try.underlying9) ?_ (fun hh => by simp at hh); intro hlen
    refine al_pure rfl rfl rfl (pure_cmp rfl rfl (fun _ => rfl) (fun _ => rfl) rfl) ?_
    refine al_nil ?_
    refine awp_cond rfl (fun hc2 => ?_) (fun hc2 => ?_)
    · try simp only [n1, n2, n3, n4, n5, n6, n7, n8, n9, n10, n11, n12, n13, n14, n15, n16] at hc2
      rw [drop_get0 (by omega), numF] at h4
      refine awp_skip ?_
      refine awp_seq ?_
      refine awp_block ?_
      refine awp_seq ?_
      refine awp_seq ?_
      refine awp_region ?_
      refine al_pure rfl rfl rfl (pure_move rfl (fun _ => rfl)) ?_
      refine al_pure rfl rfl rfl (pure_move rfl (fun _ => rfl)) ?_
      refine al_pure rfl rfl rfl (pure_indexSg rfl rfl (fun _ => rfl) (fun _ => rfl) Try.underlying9 rfl (fun hh => by first | omega | (simp at hh; omega))) ?_
      refine al_pure rfl rfl rfl (pure_cmp rfl rfl (fun _ => rfl) (fun _ => rfl) rfl) ?_
      refine al_pure rfl rfl rfl (pure_move rfl (fun _ => rfl)) ?_
      refine al_pure rfl rfl rfl (pure_move rfl (fun _ => rfl)) ?_
      refine al_pure rfl rfl rfl (pure_move rfl (fun _ => rfl)) ?_
      refine al_pure rfl rfl rfl (pure_indexSg rfl rfl (fun hh => hh) (fun hh => hh) Try.underlying9 rfl (fun hh => by first | omega | (simp at hh; omega))) ?_
      refine al_sub (s := { t := [(0, _, _), (3, _, _), (4, _, _), (33, _, _), (36, _, _)], bx := [], ow := [] }) (sub_mk (⟨⟨_, rfl, rfl⟩, ⟨⟨_, rfl, rfl⟩, ⟨⟨_, rfl, rfl⟩, ⟨⟨_, rfl, rfl⟩, ⟨⟨_, rfl, rfl⟩, trivial⟩⟩⟩⟩⟩) trivial trivial) ?_
      refine al_pure rfl rfl rfl (pure_cmp rfl rfl (fun hh => hh) (fun _ => rfl) rfl) ?_
      refine al_pure rfl rfl rfl (pure_or rfl rfl (fun _ => rfl) (fun _ hi => gP rfl hi)) ?_
      refine al_nil ?_
      refine awp_cond rfl (fun hc3 => ?_) (fun hc3 => ?_)
      · try simp only [n1, n2, n3, n4, n5, n6, n7, n8, n9, n10, n11, n12, n13, n14, n15, n16] at hc3
        rw [if_pos (by omega)] at h4
        refine awp_seq ?_
        refine awp_region ?_
        refine al_pure rfl rfl rfl (pure_assign rfl (fun _ => rfl)) ?_
        refine al_nil ?_
        refine awp_ret ?_
        repeat (first | refine thenS_ret ?_ | refine blockS_ret ?_)
        refine ret_ok rfl ?_ trivial
        exact xi_eq h4
      · try simp only [n1, n2, n3, n4, n5, n6, n7, n8, n9, n10, n11, n12, n13, n14, n15, n16] at hc3
        rw [if_neg (by omega)] at h4
        refine awp_skip ?_
        refine awp_region ?_
        refine al_pure rfl rfl rfl (pure_move rfl (fun _ => rfl)) ?_
        refine al_pure rfl rfl rfl (pure_arith rfl rfl (fun _ => rfl) (fun _ => rfl) rfl (IntWalk.i64_in _ (by omega))) ?_
        refine al_pure rfl rfl rfl (pure_move rfl (fun _ => rfl)) ?_
        refine al_pure rfl rfl rfl (pure_move rfl (fun _ => rfl)) ?_
        refine al_pure rfl rfl rfl (pure_indexSg rfl rfl (fun _ => rfl) (fun _ => rfl) Try.underlying9 rfl (fun hh => by first | omega | (simp at hh; omega))) ?_
        refine al_pure rfl rfl rfl (pure_arith rfl rfl (fun _ => rfl) (fun _ => rfl) rfl (IntWalk.u8_in _ (by omega))) ?_
        refine al_pure rfl rfl rfl (pure_convInt rfl (fun _ => rfl) ⟨_, Try.underlying5⟩ (Try.underlying3) (IntWalk.i64_in _ (by omega))) ?_
        refine al_pure rfl rfl rfl (pure_arith rfl rfl (fun _ => rfl) (fun _ => rfl) rfl (IntWalk.i64_in _ (by omega))) ?_
        refine al_pure rfl rfl rfl (pure_assign rfl (fun _ => rfl)) ?_
        refine al_nil ?_
        refine awp_sub (s := { t := [(0, _, _), (3, _, _), (4, _, _)], bx := [], ow := [] }) (sub_mk (⟨⟨_, rfl, rfl⟩, ⟨⟨_, rfl, rfl⟩, ⟨⟨_, rfl, rfl⟩, trivial⟩⟩⟩) trivial trivial) ?_
        refine awp_region ?_
        refine al_pure rfl rfl rfl (pure_move rfl (fun _ => rfl)) ?_
        refine al_pure rfl rfl rfl (pure_arith rfl rfl (fun _ => rfl) (fun _ => rfl) rfl (IntWalk.i64_in _ (by omega))) ?_
        refine al_pure rfl rfl rfl (pure_assign rfl (fun _ => rfl)) ?_
        refine al_nil ?_
        refine ⟨(k + 1, 10 * n + ((s.getD k 0).toNat - 48)), ?_, ?_, sub_mk (⟨⟨_, rfl, ?_⟩, ⟨⟨_, rfl, ?_⟩, ⟨⟨_, rfl, rfl⟩, trivial⟩⟩⟩) trivial trivial⟩
        · exact ⟨by dsimp only; omega, by dsimp only; omega, by dsimp only; omega, h4⟩
        · dsimp only; omega
        · rfl
        · rfl
    · try simp only [n1, n2, n3, n4, n5, n6, n7, n8, n9, n10, n11, n12, n13, n14, n15, n16] at hc2
      rw [List.drop_of_length_le (by omega), numF] at h4
      refine awp_exit ?_
      repeat (first | refine thenS_exit ?_ | refine blockS_hit ?_ | refine blockS_miss rfl ?_)
      refine awp_seq ?_
      refine awp_region ?_
      refine al_pure rfl rfl rfl (pure_move rfl (fun _ => rfl)) ?_
      refine al_pure rfl rfl rfl (pure_assign rfl (fun _ => rfl)) ?_
      refine al_nil ?_
      refine awp_ret ?_
      repeat (first | refine thenS_ret ?_ | refine blockS_ret ?_)
      refine ret_ok rfl ?_ trivial
      exact xi_eq h4
theorem hexV_rng {b : UInt8} (h : hexB b = true) : 0 ≤ hexV b ∧ hexV b ≤ 15 := by
  simp only [hexB, hexV, Bool.or_eq_true, Bool.and_eq_true, decide_eq_true_eq] at *
  split <;> omega
/-- The number that two digits give, after 'j' of them. -/
def hex2 (a b : UInt8) (j : Nat) : Int := if j = 0 then 0 else if j = 1 then hexV a else 16 * hexV a + hexV b
theorem hex2_0 (a b : UInt8) : hex2 a b 0 = 0 := rfl
theorem hex2_1 (a b : UInt8) : hex2 a b 1 = hexV a := rfl
theorem hex2_2 (a b : UInt8) : hex2 a b 2 = 16 * hexV a + hexV b := rfl
theorem unhex_spec (s : List UInt8) (hs : s.length ≤ 10000) : Ctr sys 77 [xs s] [] (.tup [.c (.s (unhexF s []).1), .c (.b (unhexF s []).2)]) none [] := by
  refine spec_intro Try.func77 rfl rfl rfl rfl rfl rfl ?_
  refine awp_seq ?_
  refine awp_region ?_
  refine al_pure rfl rfl rfl (pure_assign rfl (fun _ => rfl)) ?_
  refine al_pure rfl rfl rfl (pure_assign rfl (fun _ => rfl)) ?_
  refine al_nil ?_
  refine awp_seq ?_
  refine awp_region ?_
  refine al_do rfl (does_nil (.inr rfl) rfl rfl) ?_
  refine al_nil ?_
  refine awp_seq ?_
  refine awp_seq ?_
  refine awp_region ?_
  refine al_pure rfl rfl rfl (pure_assign rfl (fun _ => rfl)) ?_
  refine al_nil ?_
  refine awp_block ?_
  refine awp_for (ι := Nat × List UInt8) { t := [(0, _, _)], bx := [], ow := [((.t 4), _)] } (fun p => [(5, true, xi (p.1 : Int)), (4, true, xbs p.2)]) (fun p => []) (fun p => p.1 ≤ s.length ∧ p.2.length ≤ p.1 ∧ p.1 % 2 = 0 ∧ unhexF (s.drop p.1) p.2 = unhexF s []) (fun p => s.length - p.1) ((0, [])) (⟨by simp, by simp, by simp, rfl⟩) (sub_mk (⟨⟨_, rfl, rfl⟩, ⟨⟨_, rfl, rfl⟩, ⟨⟨_, rfl, rfl⟩, trivial⟩⟩⟩) trivial (⟨rfl, trivial⟩)) ?_
  intro p hok
  dsimp only [List.cons_append, List.nil_append] at *
  obtain ⟨k, out⟩ := p
  dsimp only at hok ⊢
  obtain ⟨h1, h2, h0, h4⟩ := hok
  refine awp_seq ?_
  refine awp_seq ?_
  refine awp_region ?_
  refine al_pure rfl rfl rfl (pure_move rfl (fun _ => rfl)) ?_
  refine al_pure rfl rfl rfl (pure_arith rfl rfl (fun _ => rfl) (fun _ => rfl) rfl (IntWalk.i64_in _ (by omega))) ?_
  refine al_pure rfl rfl rfl (pure_move rfl (fun _ => rfl)) ?_
  refine al_lenS rfl rfl rfl rfl rfl (fun _ => rfl) (Try.underlying9) ?_ (fun hh => by simp at hh); intro hlen
  refine al_pure rfl rfl rfl (pure_cmp rfl rfl (fun _ => rfl) (fun _ => rfl) rfl) ?_
  refine al_nil ?_
  refine awp_sub (s := { t := [(0, _, _), (4, _, _), (5, _, _), (12, _, _)], bx := [], ow := [((.t 4), _)] }) (sub_mk (⟨⟨_, rfl, rfl⟩, ⟨⟨_, rfl, rfl⟩, ⟨⟨_, rfl, rfl⟩, ⟨⟨_, rfl, rfl⟩, trivial⟩⟩⟩⟩) trivial (⟨rfl, trivial⟩)) ?_
  refine awp_cond rfl (fun hc => ?_) (fun hc => ?_)
  · try simp only [n1, n2, n3, n4, n5, n6, n7, n8, n9, n10, n11, n12, n13, n14, n15, n16] at hc
    rw [drop_get0 (by omega), drop_get0 (by omega), unhexF] at h4
    refine awp_skip ?_
    refine awp_seq ?_
    refine awp_block ?_
    refine awp_seq ?_
    refine awp_region ?_
    refine al_pure rfl rfl rfl (pure_assign rfl (fun _ => rfl)) ?_
    refine al_nil ?_
    refine awp_seq ?_
    refine awp_seq ?_
    refine awp_region ?_
    refine al_pure rfl rfl rfl (pure_move rfl (fun _ => rfl)) ?_
    refine al_pure rfl rfl rfl (pure_assign rfl (fun _ => rfl)) ?_
    refine al_nil ?_
    refine awp_block ?_
    refine awp_for (ι := Nat) { t := [(0, _, _), (4, _, _), (5, _, _)], bx := [], ow := [((.t 4), _)] } (fun j => [(7, true, xi ((k + j : Nat) : Int)), (6, true, xi (hex2 (s.getD k 0) (s.getD (k + 1) 0) j))]) (fun j => []) (fun j => j ≤ 2 ∧ (1 ≤ j → hexB (s.getD k 0) = true) ∧ (2 ≤ j → hexB (s.getD (k + 1) 0) = true)) (fun j => 2 - j) (0) (by simp) (sub_mk (⟨⟨_, rfl, rfl⟩, ⟨⟨_, rfl, rfl⟩, ⟨⟨_, rfl, rfl⟩, ⟨⟨_, rfl, rfl⟩, ⟨⟨_, rfl, rfl⟩, trivial⟩⟩⟩⟩⟩) trivial (⟨rfl, trivial⟩)) ?_
    intro j hok2
    dsimp only [List.cons_append, List.nil_append]
    obtain ⟨g1, g2, g3⟩ := hok2
    refine awp_seq ?_
    refine awp_seq ?_
    refine awp_region ?_
    refine al_pure rfl rfl rfl (pure_move rfl (fun _ => rfl)) ?_
    refine al_pure rfl rfl rfl (pure_move rfl (fun _ => rfl)) ?_
    refine al_pure rfl rfl rfl (pure_arith rfl rfl (fun _ => rfl) (fun _ => rfl) rfl (IntWalk.i64_in _ (by omega))) ?_
    refine al_pure rfl rfl rfl (pure_cmp rfl rfl (fun _ => rfl) (fun _ => rfl) rfl) ?_
    refine al_nil ?_
    refine awp_cond rfl (fun hc2 => ?_) (fun hc2 => ?_)
    · try simp only [n1, n2, n3, n4, n5, n6, n7, n8, n9, n10, n11, n12, n13, n14, n15, n16] at hc2
      have hb := (s.getD (k + j) 0).toNat_lt
      have hx : j = 0 ∨ j = 1 := by omega
      have hr : 0 ≤ hex2 (s.getD k 0) (s.getD (k + 1) 0) j ∧ hex2 (s.getD k 0) (s.getD (k + 1) 0) j ≤ 15 := by
        rcases hx with rfl | rfl
        · rw [hex2_0]; omega
        · have := hexV_rng (g2 (by omega)); rw [hex2_1]; omega
      have hn : hexB (s.getD (k + j) 0) = true → hex2 (s.getD k 0) (s.getD (k + 1) 0) (j + 1) = 16 * hex2 (s.getD k 0) (s.getD (k + 1) 0) j + hexV (s.getD (k + j) 0) := by
        intro _
        rcases hx with rfl | rfl
        · rw [hex2_1, hex2_0]; simp only [Nat.add_zero, Int.mul_zero, Int.zero_add]
        · rw [hex2_2, hex2_1]
      have hj : hexB (s.getD (k + j) 0) = true → (1 ≤ j + 1 → hexB (s.getD k 0) = true) ∧ (2 ≤ j + 1 → hexB (s.getD (k + 1) 0) = true) := by
        intro h
        rcases hx with rfl | rfl
        · exact ⟨fun _ => h, fun h => by omega⟩
        · exact ⟨fun _ => g2 (by omega), fun _ => h⟩
      refine awp_skip ?_
      refine awp_seq ?_
      refine awp_block ?_
      refine awp_block ?_
      refine awp_seq ?_
      refine awp_region ?_
      refine al_pure rfl rfl rfl (pure_move rfl (fun _ => rfl)) ?_
      refine al_pure rfl rfl rfl (pure_move rfl (fun _ => rfl)) ?_
      refine al_pure rfl rfl rfl (pure_indexSg rfl rfl (fun _ => rfl) (fun _ => rfl) Try.underlying9 rfl (fun hh => by first | omega | (simp at hh; omega))) ?_
      refine al_pure rfl rfl rfl (pure_cmp rfl rfl (fun _ => rfl) (fun _ => rfl) rfl) ?_
      refine al_pure rfl rfl rfl (pure_move rfl (fun _ => rfl)) ?_
      refine al_pure rfl rfl rfl (pure_move rfl (fun _ => rfl)) ?_
      refine al_pure rfl rfl rfl (pure_move rfl (fun _ => rfl)) ?_
      refine al_pure rfl rfl rfl (pure_indexSg rfl rfl (fun hh => hh) (fun hh => hh) Try.underlying9 rfl (fun hh => by first | omega | (simp at hh; omega))) ?_
      refine al_sub (s := { t := [(0, _, _), (4, _, _), (5, _, _), (6, _, _), (7, _, _), (27, _, _), (30, _, _)], bx := [], ow := [((.t 4), _)] }) (sub_mk (⟨⟨_, rfl, rfl⟩, ⟨⟨_, rfl, rfl⟩, ⟨⟨_, rfl, rfl⟩, ⟨⟨_, rfl, rfl⟩, ⟨⟨_, rfl, rfl⟩, ⟨⟨_, rfl, rfl⟩, ⟨⟨_, rfl, rfl⟩, trivial⟩⟩⟩⟩⟩⟩⟩) trivial (⟨rfl, trivial⟩)) ?_
      refine al_pure rfl rfl rfl (pure_cmp rfl rfl (fun hh => hh) (fun _ => rfl) rfl) ?_
      refine al_pure rfl rfl rfl (pure_and rfl rfl (fun _ => rfl) (fun _ hi => gP rfl hi)) ?_
      refine al_pure rfl rfl rfl (pure_assign rfl (fun _ => rfl)) ?_
      refine al_nil ?_
      refine awp_cond rfl (fun hc3 => ?_) (fun hc3 => ?_)
      · try simp only [n1, n2, n3, n4, n5, n6, n7, n8, n9, n10, n11, n12, n13, n14, n15, n16] at hc3
        have hh : hexB (s.getD (k + j) 0) = true := by simp only [hexB, Bool.or_eq_true, Bool.and_eq_true, decide_eq_true_eq]; omega
        have hv : hexV (s.getD (k + j) 0) = (s.getD (k + j) 0).toNat - 48 := by rw [hexV, if_pos]; omega
        refine awp_region ?_
        refine al_pure rfl rfl rfl (pure_move rfl (fun _ => rfl)) ?_
        refine al_pure rfl rfl rfl (pure_arith rfl rfl (fun _ => rfl) (fun _ => rfl) rfl (IntWalk.i64_in _ (by omega))) ?_
        refine al_pure rfl rfl rfl (pure_move rfl (fun _ => rfl)) ?_
        refine al_pure rfl rfl rfl (pure_move rfl (fun _ => rfl)) ?_
        refine al_pure rfl rfl rfl (pure_indexSg rfl rfl (fun _ => rfl) (fun _ => rfl) Try.underlying9 rfl (fun hh => by first | omega | (simp at hh; omega))) ?_
        refine al_pure rfl rfl rfl (pure_arith rfl rfl (fun _ => rfl) (fun _ => rfl) rfl (IntWalk.u8_in _ (by omega))) ?_
        refine al_pure rfl rfl rfl (pure_convInt rfl (fun _ => rfl) ⟨_, Try.underlying5⟩ (Try.underlying3) (IntWalk.i64_in _ (by omega))) ?_
        refine al_pure rfl rfl rfl (pure_arith rfl rfl (fun _ => rfl) (fun _ => rfl) rfl (IntWalk.i64_in _ (by omega))) ?_
        refine al_pure rfl rfl rfl (pure_assign rfl (fun _ => rfl)) ?_
        refine al_nil ?_
        refine awp_sub (s := { t := [(0, _, _), (4, _, _), (5, _, _), (6, _, _), (7, _, _)], bx := [], ow := [((.t 4), _)] }) (sub_mk (⟨⟨_, rfl, rfl⟩, ⟨⟨_, rfl, rfl⟩, ⟨⟨_, rfl, rfl⟩, ⟨⟨_, rfl, rfl⟩, ⟨⟨_, rfl, rfl⟩, trivial⟩⟩⟩⟩⟩) trivial (⟨rfl, trivial⟩)) ?_
        refine awp_region ?_
        refine al_pure rfl rfl rfl (pure_move rfl (fun _ => rfl)) ?_
        refine al_pure rfl rfl rfl (pure_arith rfl rfl (fun _ => rfl) (fun _ => rfl) rfl (IntWalk.i64_in _ (by omega))) ?_
        refine al_pure rfl rfl rfl (pure_assign rfl (fun _ => rfl)) ?_
        refine al_nil ?_
        refine ⟨j + 1, ?_, ?_, sub_mk (⟨⟨_, rfl, ?_⟩, ⟨⟨_, rfl, ?_⟩, ⟨⟨_, rfl, rfl⟩, ⟨⟨_, rfl, rfl⟩, ⟨⟨_, rfl, rfl⟩, trivial⟩⟩⟩⟩⟩) trivial (⟨rfl, trivial⟩)⟩
        · exact ⟨by omega, hj hh⟩
        · omega
        · rfl
        · exact tx (xi_eq (by rw [hn hh, hv]; try omega))
      · try simp only [n1, n2, n3, n4, n5, n6, n7, n8, n9, n10, n11, n12, n13, n14, n15, n16] at hc3
        refine awp_seq ?_
        refine awp_region ?_
        refine al_pure rfl rfl rfl (pure_move rfl (fun _ => rfl)) ?_
        refine al_pure rfl rfl rfl (pure_move rfl (fun _ => rfl)) ?_
        refine al_pure rfl rfl rfl (pure_indexSg rfl rfl (fun _ => rfl) (fun _ => rfl) Try.underlying9 rfl (fun hh => by first | omega | (simp at hh; omega))) ?_
        refine al_pure rfl rfl rfl (pure_cmp rfl rfl (fun _ => rfl) (fun _ => rfl) rfl) ?_
        refine al_pure rfl rfl rfl (pure_move rfl (fun _ => rfl)) ?_
        refine al_pure rfl rfl rfl (pure_move rfl (fun _ => rfl)) ?_
        refine al_pure rfl rfl rfl (pure_move rfl (fun _ => rfl)) ?_
        refine al_pure rfl rfl rfl (pure_indexSg rfl rfl (fun hh => hh) (fun hh => hh) Try.underlying9 rfl (fun hh => by first | omega | (simp at hh; omega))) ?_
        refine al_pure rfl rfl rfl (pure_cmp rfl rfl (fun hh => hh) (fun _ => rfl) rfl) ?_
        refine al_sub (s := { t := [(0, _, _), (4, _, _), (5, _, _), (6, _, _), (7, _, _), (46, _, _), (50, _, _)], bx := [], ow := [((.t 4), _)] }) (sub_mk (⟨⟨_, rfl, rfl⟩, ⟨⟨_, rfl, rfl⟩, ⟨⟨_, rfl, rfl⟩, ⟨⟨_, rfl, rfl⟩, ⟨⟨_, rfl, rfl⟩, ⟨⟨_, rfl, rfl⟩, ⟨⟨_, rfl, rfl⟩, trivial⟩⟩⟩⟩⟩⟩⟩) trivial (⟨rfl, trivial⟩)) ?_
        refine al_pure rfl rfl rfl (pure_and rfl rfl (fun _ => rfl) (fun _ hi => gP rfl hi)) ?_
        refine al_pure rfl rfl rfl (pure_assign rfl (fun _ => rfl)) ?_
        refine al_nil ?_
        refine awp_cond rfl (fun hc4 => ?_) (fun hc4 => ?_)
        · try simp only [n1, n2, n3, n4, n5, n6, n7, n8, n9, n10, n11, n12, n13, n14, n15, n16] at hc4
          have hh : hexB (s.getD (k + j) 0) = true := by simp only [hexB, Bool.or_eq_true, Bool.and_eq_true, decide_eq_true_eq]; omega
          have hv : hexV (s.getD (k + j) 0) = (s.getD (k + j) 0).toNat - 87 := by rw [hexV, if_neg]; omega
          refine awp_region ?_
          refine al_pure rfl rfl rfl (pure_move rfl (fun _ => rfl)) ?_
          refine al_pure rfl rfl rfl (pure_arith rfl rfl (fun _ => rfl) (fun _ => rfl) rfl (IntWalk.i64_in _ (by omega))) ?_
          refine al_pure rfl rfl rfl (pure_move rfl (fun _ => rfl)) ?_
          refine al_pure rfl rfl rfl (pure_move rfl (fun _ => rfl)) ?_
          refine al_pure rfl rfl rfl (pure_indexSg rfl rfl (fun _ => rfl) (fun _ => rfl) Try.underlying9 rfl (fun hh => by first | omega | (simp at hh; omega))) ?_
          refine al_pure rfl rfl rfl (pure_arith rfl rfl (fun _ => rfl) (fun _ => rfl) rfl (IntWalk.u8_in _ (by omega))) ?_
          refine al_pure rfl rfl rfl (pure_convInt rfl (fun _ => rfl) ⟨_, Try.underlying5⟩ (Try.underlying3) (IntWalk.i64_in _ (by omega))) ?_
          refine al_pure rfl rfl rfl (pure_arith rfl rfl (fun _ => rfl) (fun _ => rfl) rfl (IntWalk.i64_in _ (by omega))) ?_
          refine al_pure rfl rfl rfl (pure_arith rfl rfl (fun _ => rfl) (fun _ => rfl) rfl (IntWalk.i64_in _ (by omega))) ?_
          refine al_pure rfl rfl rfl (pure_assign rfl (fun _ => rfl)) ?_
          refine al_nil ?_
          refine awp_sub (s := { t := [(0, _, _), (4, _, _), (5, _, _), (6, _, _), (7, _, _)], bx := [], ow := [((.t 4), _)] }) (sub_mk (⟨⟨_, rfl, rfl⟩, ⟨⟨_, rfl, rfl⟩, ⟨⟨_, rfl, rfl⟩, ⟨⟨_, rfl, rfl⟩, ⟨⟨_, rfl, rfl⟩, trivial⟩⟩⟩⟩⟩) trivial (⟨rfl, trivial⟩)) ?_
          refine awp_region ?_
          refine al_pure rfl rfl rfl (pure_move rfl (fun _ => rfl)) ?_
          refine al_pure rfl rfl rfl (pure_arith rfl rfl (fun _ => rfl) (fun _ => rfl) rfl (IntWalk.i64_in _ (by omega))) ?_
          refine al_pure rfl rfl rfl (pure_assign rfl (fun _ => rfl)) ?_
          refine al_nil ?_
          refine ⟨j + 1, ?_, ?_, sub_mk (⟨⟨_, rfl, ?_⟩, ⟨⟨_, rfl, ?_⟩, ⟨⟨_, rfl, rfl⟩, ⟨⟨_, rfl, rfl⟩, ⟨⟨_, rfl, rfl⟩, trivial⟩⟩⟩⟩⟩) trivial (⟨rfl, trivial⟩)⟩
          · exact ⟨by omega, hj hh⟩
          · omega
          · rfl
          · exact tx (xi_eq (by rw [hn hh, hv]; try omega))
        · try simp only [n1, n2, n3, n4, n5, n6, n7, n8, n9, n10, n11, n12, n13, n14, n15, n16] at hc4
          have hh : hexB (s.getD (k + j) 0) = false := by simp only [hexB, Bool.or_eq_false_iff, Bool.and_eq_false_iff, decide_eq_false_iff_not]; omega
          have hne : ¬ (hexB (s.getD k 0) = true ∧ hexB (s.getD (k + 1) 0) = true) := by
            rintro ⟨q1, q2⟩
            rcases hx with rfl | rfl
            · rw [Nat.add_zero, q1] at hh; simp at hh
            · rw [q2] at hh; simp at hh
          rw [if_neg hne] at h4
          refine awp_seq ?_
          refine awp_region ?_
          refine al_pure rfl rfl rfl (pure_assign rfl (fun _ => rfl)) ?_
          refine al_pure rfl rfl rfl (pure_assign rfl (fun _ => rfl)) ?_
          refine al_nil ?_
          refine awp_ret ?_
          repeat (first | refine thenS_ret ?_ | refine blockS_ret ?_)
          refine ret_ok rfl ?_ trivial
          rw [← h4]; rfl
    · try simp only [n1, n2, n3, n4, n5, n6, n7, n8, n9, n10, n11, n12, n13, n14, n15, n16] at hc2
      obtain rfl : j = 2 := by omega
      have r1 := hexV_rng (g2 (by omega))
      have r2 := hexV_rng (g3 (by omega))
      have hbv : ((UInt8.ofNat (16 * hexV (s.getD k 0) + hexV (s.getD (k + 1) 0)).toNat).toNat : Int) = hex2 (s.getD k 0) (s.getD (k + 1) 0) 2 := by
        rw [hex2_2, UInt8.toNat_ofNat']; omega
      rw [if_pos ⟨g2 (by omega), g3 (by omega)⟩] at h4
      have hr : 0 ≤ hex2 (s.getD k 0) (s.getD (k + 1) 0) 2 ∧ hex2 (s.getD k 0) (s.getD (k + 1) 0) 2 ≤ 255 := by rw [hex2_2]; omega
      refine awp_exit ?_
      repeat (first | refine thenS_exit ?_ | refine blockS_hit ?_ | refine blockS_miss rfl ?_)
      refine awp_region ?_
      refine al_do rfl (does_take (.inl rfl) rfl rfl rfl) ?_
      refine al_pure rfl rfl rfl (pure_move rfl (fun _ => rfl)) ?_
      refine al_pure rfl rfl rfl (pure_convInt rfl (fun _ => rfl) ⟨_, Try.underlying3⟩ (Try.underlying5) (IntWalk.u8_in _ (by omega))) ?_
      refine al_buildSlice (xs := [_]) rfl rfl rfl rfl rfl rfl rfl rfl rfl (fun _ => rfl) rfl ?_
      refine al_do rfl (does_append rfl rfl rfl rfl rfl rfl rfl (by simp [bytesR_len]; omega) (by simp [bytesR_len]; omega)) ?_
      refine al_do rfl (does_take (.inr rfl) rfl rfl rfl) ?_
      refine al_nil ?_
      refine awp_sub (s := { t := [(0, _, _), (4, _, _), (5, _, _)], bx := [], ow := [((.t 4), _)] }) (sub_mk (⟨⟨_, rfl, rfl⟩, ⟨⟨_, rfl, rfl⟩, ⟨⟨_, rfl, rfl⟩, trivial⟩⟩⟩) trivial (⟨rfl, trivial⟩)) ?_
      refine awp_region ?_
      refine al_pure rfl rfl rfl (pure_move rfl (fun _ => rfl)) ?_
      refine al_pure rfl rfl rfl (pure_arith rfl rfl (fun _ => rfl) (fun _ => rfl) rfl (IntWalk.i64_in _ (by omega))) ?_
      refine al_pure rfl rfl rfl (pure_assign rfl (fun _ => rfl)) ?_
      refine al_nil ?_
      refine ⟨(k + 2, out ++ [UInt8.ofNat (16 * hexV (s.getD k 0) + hexV (s.getD (k + 1) 0)).toNat]), ?_, ?_, sub_mk (⟨⟨_, rfl, ?_⟩, ⟨⟨_, rfl, ?_⟩, ⟨⟨_, rfl, rfl⟩, trivial⟩⟩⟩) trivial (⟨rfl, trivial⟩)⟩
      · exact ⟨by dsimp only; omega, by simp; omega, by dsimp only; omega, h4⟩
      · dsimp only; omega
      · rfl
      · exact tx (xbs_snoc _ _ _ hbv)
  · try simp only [n1, n2, n3, n4, n5, n6, n7, n8, n9, n10, n11, n12, n13, n14, n15, n16] at hc
    have hend : unhexF (s.drop k) out = (out, decide (s.length % 2 = 0)) := by
      have hl : (s.drop k).length = 0 ∨ (s.drop k).length = 1 := by simp; omega
      have hk : s.length = k + (s.drop k).length := by simp; omega
      rcases hl with hl | hl
      · rw [List.eq_nil_of_length_eq_zero hl, unhexF]
        congr 1; simp; omega
      · obtain ⟨b, hb⟩ := List.length_eq_one_iff.1 hl
        rw [hb, unhexF]
        congr 1; simp; omega
    rw [hend] at h4
    refine awp_exit ?_
    repeat (first | refine thenS_exit ?_ | refine blockS_hit ?_ | refine blockS_miss rfl ?_)
    refine awp_seq ?_
    refine awp_region ?_
    refine al_pure rfl rfl rfl (pure_move rfl (fun _ => rfl)) ?_
    refine al_pure rfl rfl rfl (pure_bytesStr rfl (rfl) (fun _ => rfl) Try.underlying48 Try.underlying5 Try.underlying9) ?_
    refine al_pure rfl rfl rfl (pure_move rfl (fun _ => rfl)) ?_
    refine al_lenS rfl rfl rfl rfl rfl (fun _ => rfl) (Try.underlying9) ?_ (fun hh => by simp at hh); intro hlen
    refine al_pure rfl rfl rfl (pure_remG rfl rfl (fun _ => rfl) (fun _ => rfl) (fun hh => by first | omega | (simp at hh; omega)) (fun hh => Int.tmod_eq_emod_of_nonneg (by first | omega | (simp at hh; omega)))) ?_
    refine al_pure rfl rfl rfl (pure_cmp rfl rfl (fun _ => rfl) (fun _ => rfl) rfl) ?_
    refine al_pure rfl rfl rfl (pure_assign rfl (fun _ => rfl)) ?_
    refine al_pure rfl rfl rfl (pure_assign rfl (fun _ => rfl)) ?_
    refine al_nil ?_
    refine awp_ret ?_
    repeat (first | refine thenS_ret ?_ | refine blockS_ret ?_)
    refine ret_ok rfl ?_ trivial
    rw [← h4]
    have : ((s.length : Int) % 2 == 0) = decide (s.length % 2 = 0) := by rw [Bool.eq_iff_iff]; simp; omega
    rw [← this]; rfl
end Go.Proofs.Ytgjclggjkhapfaa
/- Contracts: the reference reads tables of formats. -/
set_option linter.unusedVariables false
set_option linter.unusedSimpArgs false
namespace Go.Proofs.Ytgjclggjkhapfaa
open Go Go.Abs
def fd0 : Fd := ⟨0, [], 0, 0, 0⟩
def readW (t : List Fm) (w : List (List UInt8)) : Fd × Bool :=
  if (w.length : Int) = 3 ∧ (w.getD 0 [] = [110, 117, 109, 98, 101, 114] ∨ w.getD 0 [] = [114, 101, 115, 116]) then
    (⟨if w.getD 0 [] = [114, 101, 115, 116] then 6 else 4, [], 0, numE (w.getD 1 []), numE (w.getD 2 [])⟩, decide (0 ≤ numE (w.getD 1 [])) && decide (0 ≤ numE (w.getD 2 [])))
  else if ¬ (w.length : Int) = 2 then (fd0, false)
  else if w.getD 0 [] = [116, 97, 103] then (⟨1, (unhexF (w.getD 1 []) []).1, 0, 0, 0⟩, (unhexF (w.getD 1 []) []).2)
  else if w.getD 0 [] = [102, 105, 120, 101, 100] then (⟨2, [], numE (w.getD 1 []), 0, 0⟩, decide (0 ≤ numE (w.getD 1 [])))
  else if w.getD 0 [] = [98, 121, 116, 101, 115] then (⟨3, [], numE (w.getD 1 []), 0, 0⟩, decide (0 ≤ numE (w.getD 1 [])))
  else if w.getD 0 [] = [110, 101, 115, 116, 101, 100] then (⟨5, [], findF (w.getD 1 []) 0 t, 0, 0⟩, decide (0 ≤ findF (w.getD 1 []) 0 t))
  else (fd0, false)
def readE (t : List Fm) (s : List UInt8) : Fd × Bool := readW t (splitE s [32])
abbrev xfb (p : Fd × Bool) : X := .tup [.agg p.1.cells, .c (.b p.2)]
theorem xfb_eq {p q : Fd × Bool} {x : X} (hx : x = xfb p) (h : p = q) : x = xfb q := by rw [hx, h]
theorem read_spec (t : List Fm) (s : List UInt8) (hs : s.length ≤ 10000) : Ctr sys 52 [xtab t, xs s] [] (xfb (readE t s)) none [] := by
  have hsl := splitE_len s [32]
  have hg1 := splitE_get s [32] 1
  have hsp := split_spec s [32] hs (by decide) (by decide)
  unfold readE
  generalize splitE s [32] = w at *
  have hwl := strR_len w
  refine spec_intro Try.func52 rfl rfl rfl rfl rfl rfl ?_
  refine awp_seq ?_
  refine awp_region ?_
  refine al_do rfl (does_alloc rfl rfl rfl) ?_
  refine al_pure rfl rfl rfl (pure_assign rfl (fun _ => rfl)) ?_
  refine al_nil ?_
  refine awp_seq ?_
  refine awp_region ?_
  refine al_pure rfl rfl rfl (pure_move rfl (fun _ => rfl)) ?_
  refine al_call rfl rfl rfl rfl rfl rfl (fun _ => rfl) (fun _ => rfl) (hsp) rfl ?_
  refine al_pure rfl rfl rfl (pure_assign rfl (fun _ => rfl)) ?_
  refine al_nil ?_
  refine awp_sub (s := { t := [(0, _, _), (4, _, _), (6, _, _)], bx := [((.l 4), _)], ow := [] }) (sub_mk (⟨⟨_, rfl, rfl⟩, ⟨⟨_, rfl, rfl⟩, ⟨⟨_, rfl, rfl⟩, trivial⟩⟩⟩) (⟨⟨_, rfl, rfl⟩, trivial⟩) trivial) ?_
  refine awp_seq ?_
  refine awp_seq ?_
  refine awp_region ?_
  refine al_pure rfl rfl rfl (pure_move rfl (fun _ => rfl)) ?_
  refine al_lenSl rfl rfl rfl rfl rfl (fun _ => rfl) rfl rfl ?_ (fun hh => by simp at hh); intro hlen
  refine al_pure rfl rfl rfl (pure_cmp rfl rfl (fun _ => rfl) (fun _ => rfl) rfl) ?_
  refine al_pure rfl rfl rfl (pure_move rfl (fun _ => rfl)) ?_
  refine al_pure rfl rfl rfl (pure_move rfl (fun _ => rfl)) ?_
  refine al_pure rfl rfl rfl (pure_indexAddr (j := 0) rfl rfl (fun hh => hh) (fun _ => rfl) rfl rfl (by first | omega | (simp at hh; omega)) (fun hh => strR_at (by first | omega | (simp at hh; omega)))) ?_
  refine al_pure rfl rfl rfl (pure_loadRo rfl (fun hh => hh) rfl rfl rfl) ?_
  refine al_pure rfl rfl rfl (pure_cmpS rfl rfl (fun hh => hh) (fun _ => rfl) rfl) ?_
  refine al_pure rfl rfl rfl (pure_move rfl (fun hh => hh)) ?_
  refine al_pure rfl rfl rfl (pure_move rfl (fun _ => rfl)) ?_
  refine al_pure rfl rfl rfl (pure_indexAddr (j := 0) rfl rfl (fun hh => hh) (fun _ => rfl) rfl rfl (by first | omega | (simp at hh; omega)) (fun hh => strR_at (by first | omega | (simp at hh; omega)))) ?_
  refine al_pure rfl rfl rfl (pure_loadRo rfl (fun hh => hh) rfl rfl rfl) ?_
  refine al_sub (s := { t := [(0, _, _), (4, _, _), (6, _, _), (16, _, _), (21, _, _), (24, _, _)], bx := [((.l 4), _)], ow := [] }) (sub_mk (⟨⟨_, rfl, rfl⟩, ⟨⟨_, rfl, rfl⟩, ⟨⟨_, rfl, rfl⟩, ⟨⟨_, rfl, rfl⟩, ⟨⟨_, rfl, rfl⟩, ⟨⟨_, rfl, rfl⟩, trivial⟩⟩⟩⟩⟩⟩) (⟨⟨_, rfl, rfl⟩, trivial⟩) trivial) ?_
  refine al_pure rfl rfl rfl (pure_cmpS rfl rfl (fun hh => hh) (fun _ => rfl) rfl) ?_
  refine al_pure rfl rfl rfl (pure_or rfl rfl (fun hh => hh) (fun hh hi => gP hh hi)) ?_
  refine al_pure rfl rfl rfl (pure_and rfl rfl (fun _ => rfl) (fun _ hi => gP rfl hi)) ?_
  refine al_nil ?_
  refine awp_cond rfl (fun hc => ?_) (fun hc => ?_)
  · try simp only [n1, n2, n3, n4, n5, n6, n7, n8, n9, n10, n11, n12, n13, n14, n15, n16, strR_len] at hc
    refine awp_seq ?_
    refine awp_drawn' (by kernel_rfl) ?_
    refine dr_pure rfl rfl rfl rfl (pure_move rfl (fun _ => rfl)) ?_
    refine dr_pure rfl rfl rfl rfl (pure_indexAddr (j := 1) rfl rfl (fun _ => rfl) (fun _ => rfl) rfl rfl (by first | omega | (simp at hh; omega)) (fun hh => strR_at (by first | omega | (simp at hh; omega)))) ?_
    refine dr_pure rfl rfl rfl rfl (pure_loadRo rfl (fun _ => rfl) rfl rfl rfl) ?_
    refine dr_callN rfl rfl rfl rfl rfl rfl rfl (fun _ => rfl) (fun _ => rfl) (number_spec _) rfl ?_
    refine dr_pure rfl rfl rfl rfl (pure_move rfl (fun _ => rfl)) ?_
    refine dr_pure rfl rfl rfl rfl (pure_indexAddr (j := 2) rfl rfl (fun _ => rfl) (fun _ => rfl) rfl rfl (by first | omega | (simp at hh; omega)) (fun hh => strR_at (by first | omega | (simp at hh; omega)))) ?_
    refine dr_pure rfl rfl rfl rfl (pure_loadRo rfl (fun _ => rfl) rfl rfl rfl) ?_
    refine dr_callN rfl rfl rfl rfl rfl rfl rfl (fun _ => rfl) (fun _ => rfl) (number_spec _) rfl ?_
    refine dr_pure rfl rfl rfl rfl (pure_build rfl Try.underlying62 rfl (fun _ => rfl)) ?_
    refine dr_alloc rfl rfl rfl rfl rfl rfl rfl ?_
    refine dr_store rfl rfl rfl rfl rfl rfl rfl rfl rfl rfl rfl rfl ?_
    refine dr_nil (by kernel_rfl) ?_
    refine awp_sub (s := { t := [(4, _, _), (6, _, _), (7, _, _)], bx := [((.l 4), _), ((.l 7), _)], ow := [] }) (sub_mk (⟨⟨_, rfl, rfl⟩, ⟨⟨_, rfl, rfl⟩, ⟨⟨_, rfl, rfl⟩, trivial⟩⟩⟩) (⟨⟨_, rfl, rfl⟩, ⟨⟨_, rfl, rfl⟩, trivial⟩⟩) trivial) ?_
    refine awp_seq ?_
    refine awp_seq ?_
    refine awp_region ?_
    refine al_pure rfl rfl rfl (pure_move rfl (fun _ => rfl)) ?_
    refine al_pure rfl rfl rfl (pure_indexAddr (j := 0) rfl rfl (fun _ => rfl) (fun _ => rfl) rfl rfl (by first | omega | (simp at hh; omega)) (fun hh => strR_at (by first | omega | (simp at hh; omega)))) ?_
    refine al_pure rfl rfl rfl (pure_loadRo rfl (fun _ => rfl) rfl rfl rfl) ?_
    refine al_pure rfl rfl rfl (pure_cmpS rfl rfl (fun _ => rfl) (fun _ => rfl) rfl) ?_
    refine al_nil ?_
    refine awp_cond rfl (fun hc2 => ?_) (fun hc2 => ?_)
    · try simp only [n1, n2, n3, n4, n5, n6, n7, n8, n9, n10, n11, n12, n13, n14, n15, n16, strR_len] at hc2
      refine awp_region ?_
      refine al_pure rfl rfl rfl (pure_fieldPtr rfl (fun _ => rfl) rfl rfl) ?_
      refine al_do rfl (does_store rfl rfl rfl rfl rfl rfl rfl) ?_
      refine al_nil ?_
      refine awp_sub (s := { t := [(4, _, _), (7, _, _)], bx := [((.l 4), _), ((.l 7), _)], ow := [] }) (sub_mk (⟨⟨_, rfl, rfl⟩, ⟨⟨_, rfl, rfl⟩, trivial⟩⟩) (⟨⟨_, rfl, rfl⟩, ⟨⟨_, rfl, rfl⟩, trivial⟩⟩) trivial) ?_
      refine awp_seq ?_
      refine awp_drawn' (by kernel_rfl) ?_
      refine dr_loadRow rfl rfl rfl rfl rfl rfl rfl (fun _ => rfl) rfl rfl rfl rfl rfl ?_
      refine dr_pure rfl rfl rfl rfl (pure_fieldPtr rfl (fun _ => rfl) rfl rfl) ?_
      refine dr_load rfl rfl rfl rfl rfl rfl rfl (fun _ => rfl) rfl rfl rfl rfl ?_
      refine dr_pure rfl rfl rfl rfl (pure_cmp rfl rfl (fun _ => rfl) (fun _ => rfl) rfl) ?_
      refine dr_pure rfl rfl rfl rfl (pure_move rfl (fun _ => rfl)) ?_
      refine dr_pure rfl rfl rfl rfl (pure_fieldPtr rfl (fun _ => rfl) rfl rfl) ?_
      refine dr_load rfl rfl rfl rfl rfl rfl rfl (fun hh => hh) rfl rfl rfl rfl ?_
      refine dr_pure rfl rfl rfl rfl (pure_cmp rfl rfl (fun hh => hh) (fun _ => rfl) rfl) ?_
      refine dr_pure rfl rfl rfl rfl (pure_and rfl rfl (fun _ => rfl) (fun _ hi => gP rfl hi)) ?_
      refine dr_store rfl rfl rfl rfl rfl rfl rfl rfl rfl rfl rfl rfl ?_
      refine dr_pure rfl rfl rfl rfl (pure_assign rfl (fun _ => rfl)) ?_
      refine dr_nil (by kernel_rfl) ?_
      refine awp_ret ?_
      repeat (first | refine thenS_ret ?_ | refine blockS_ret ?_)
      refine ret_ok rfl ?_ trivial
      (unfold readW; rw [if_pos hc, if_pos hc2]; rfl)
    · try simp only [n1, n2, n3, n4, n5, n6, n7, n8, n9, n10, n11, n12, n13, n14, n15, n16, strR_len] at hc2
      refine awp_skip ?_
      refine awp_seq ?_
      refine awp_drawn' (by kernel_rfl) ?_
      refine dr_loadRow rfl rfl rfl rfl rfl rfl rfl (fun _ => rfl) rfl rfl rfl rfl rfl ?_
      refine dr_pure rfl rfl rfl rfl (pure_fieldPtr rfl (fun _ => rfl) rfl rfl) ?_
      refine dr_load rfl rfl rfl rfl rfl rfl rfl (fun _ => rfl) rfl rfl rfl rfl ?_
      refine dr_pure rfl rfl rfl rfl (pure_cmp rfl rfl (fun _ => rfl) (fun _ => rfl) rfl) ?_
      refine dr_pure rfl rfl rfl rfl (pure_move rfl (fun _ => rfl)) ?_
      refine dr_pure rfl rfl rfl rfl (pure_fieldPtr rfl (fun _ => rfl) rfl rfl) ?_
      refine dr_load rfl rfl rfl rfl rfl rfl rfl (fun hh => hh) rfl rfl rfl rfl ?_
      refine dr_pure rfl rfl rfl rfl (pure_cmp rfl rfl (fun hh => hh) (fun _ => rfl) rfl) ?_
      refine dr_pure rfl rfl rfl rfl (pure_and rfl rfl (fun _ => rfl) (fun _ hi => gP rfl hi)) ?_
      refine dr_store rfl rfl rfl rfl rfl rfl rfl rfl rfl rfl rfl rfl ?_
      refine dr_pure rfl rfl rfl rfl (pure_assign rfl (fun _ => rfl)) ?_
      refine dr_nil (by kernel_rfl) ?_
      refine awp_ret ?_
      repeat (first | refine thenS_ret ?_ | refine blockS_ret ?_)
      refine ret_ok rfl ?_ trivial
      (unfold readW; rw [if_pos hc, if_neg hc2]; rfl)
  · try simp only [n1, n2, n3, n4, n5, n6, n7, n8, n9, n10, n11, n12, n13, n14, n15, n16, strR_len] at hc
    have hcn : ¬ ((w.length : Int) = 3 ∧ (w.getD 0 [] = [110, 117, 109, 98, 101, 114] ∨ w.getD 0 [] = [114, 101, 115, 116])) := by grind
    unfold readW
    rw [if_neg hcn]
    refine awp_skip ?_
    refine awp_seq ?_
    refine awp_seq ?_
    refine awp_region ?_
    refine al_pure rfl rfl rfl (pure_move rfl (fun _ => rfl)) ?_
    refine al_lenSl rfl rfl rfl rfl rfl (fun _ => rfl) rfl rfl ?_ (fun hh => by simp at hh); intro hlen
    refine al_pure rfl rfl rfl (pure_cmp rfl rfl (fun _ => rfl) (fun _ => rfl) rfl) ?_
    refine al_nil ?_
    refine awp_sub (s := { t := [(0, _, _), (4, _, _), (6, _, _), (53, _, _)], bx := [((.l 4), _)], ow := [] }) (sub_mk (⟨⟨_, rfl, rfl⟩, ⟨⟨_, rfl, rfl⟩, ⟨⟨_, rfl, rfl⟩, ⟨⟨_, rfl, rfl⟩, trivial⟩⟩⟩⟩) (⟨⟨_, rfl, rfl⟩, trivial⟩) trivial) ?_
    refine awp_cond rfl (fun hc3 => ?_) (fun hc3 => ?_)
    · try simp only [n1, n2, n3, n4, n5, n6, n7, n8, n9, n10, n11, n12, n13, n14, n15, n16, strR_len] at hc3
      refine awp_seq ?_
      refine awp_region ?_
      refine al_pure rfl rfl rfl (pure_build rfl Try.underlying62 rfl (fun _ => rfl)) ?_
      refine al_do rfl (does_store rfl rfl rfl rfl rfl rfl rfl) ?_
      refine al_pure rfl rfl rfl (pure_assign rfl (fun _ => rfl)) ?_
      refine al_nil ?_
      refine awp_ret ?_
      repeat (first | refine thenS_ret ?_ | refine blockS_ret ?_)
      refine ret_ok rfl ?_ trivial
      (rw [if_pos hc3]; rfl)
    · try simp only [n1, n2, n3, n4, n5, n6, n7, n8, n9, n10, n11, n12, n13, n14, n15, n16, strR_len] at hc3
      rw [if_neg (by omega)]
      refine awp_skip ?_
      refine awp_seq ?_
      refine awp_seq ?_
      refine awp_region ?_
      refine al_pure rfl rfl rfl (pure_move rfl (fun _ => rfl)) ?_
      refine al_pure rfl rfl rfl (pure_indexAddr (j := 0) rfl rfl (fun _ => rfl) (fun _ => rfl) rfl rfl (by first | omega | (simp at hh; omega)) (fun hh => strR_at (by first | omega | (simp at hh; omega)))) ?_
      refine al_pure rfl rfl rfl (pure_loadRo rfl (fun _ => rfl) rfl rfl rfl) ?_
      refine al_nil ?_
      refine awp_block ?_
      refine awp_seq ?_
      refine awp_region ?_
      refine al_pure rfl rfl rfl (pure_cmpS rfl rfl (fun _ => rfl) (fun _ => rfl) rfl) ?_
      refine al_pure rfl rfl rfl (pure_assign rfl (fun _ => rfl)) ?_
      refine al_nil ?_
      refine awp_sub (s := { t := [(0, _, _), (4, _, _), (6, _, _), (57, _, _), (58, _, _)], bx := [((.l 4), _)], ow := [] }) (sub_mk (⟨⟨_, rfl, rfl⟩, ⟨⟨_, rfl, rfl⟩, ⟨⟨_, rfl, rfl⟩, ⟨⟨_, rfl, rfl⟩, ⟨⟨_, rfl, rfl⟩, trivial⟩⟩⟩⟩⟩) (⟨⟨_, rfl, rfl⟩, trivial⟩) trivial) ?_
      refine awp_cond rfl (fun hc1 => ?_) (fun hc1 => ?_)
      · try simp only [n1, n2, n3, n4, n5, n6, n7, n8, n9, n10, n11, n12, n13, n14, n15, n16, strR_len] at hc1
        refine awp_seq ?_
        refine awp_region ?_
        refine al_pure rfl rfl rfl (pure_move rfl (fun _ => rfl)) ?_
        refine al_pure rfl rfl rfl (pure_indexAddr (j := 1) rfl rfl (fun _ => rfl) (fun _ => rfl) rfl rfl (by first | omega | (simp at hh; omega)) (fun hh => strR_at (by first | omega | (simp at hh; omega)))) ?_
        refine al_pure rfl rfl rfl (pure_loadRo rfl (fun _ => rfl) rfl rfl rfl) ?_
        refine al_call rfl rfl rfl rfl rfl rfl (fun _ => rfl) (fun _ => rfl) (unhex_spec _ (by omega)) rfl ?_
        refine al_pure rfl rfl rfl (pure_move rfl (fun _ => rfl)) ?_
        refine al_pure rfl rfl rfl (pure_extract rfl (fun _ => rfl) rfl) ?_
        refine al_pure rfl rfl rfl (pure_extract rfl (fun _ => rfl) rfl) ?_
        refine al_pure rfl rfl rfl (pure_assign rfl (fun _ => rfl)) ?_
        refine al_pure rfl rfl rfl (pure_assign rfl (fun _ => rfl)) ?_
        refine al_nil ?_
        refine awp_sub (s := { t := [(4, _, _), (8, _, _), (9, _, _)], bx := [((.l 4), _)], ow := [] }) (sub_mk (⟨⟨_, rfl, rfl⟩, ⟨⟨_, rfl, rfl⟩, ⟨⟨_, rfl, rfl⟩, trivial⟩⟩⟩) (⟨⟨_, rfl, rfl⟩, trivial⟩) trivial) ?_
        refine awp_seq ?_
        refine awp_region ?_
        refine al_pure rfl rfl rfl (pure_move rfl (fun _ => rfl)) ?_
        refine al_pure rfl rfl rfl (pure_build rfl Try.underlying62 rfl (fun _ => rfl)) ?_
        refine al_pure rfl rfl rfl (pure_move rfl (fun _ => rfl)) ?_
        refine al_do rfl (does_store rfl rfl rfl rfl rfl rfl rfl) ?_
        refine al_pure rfl rfl rfl (pure_assign rfl (fun _ => rfl)) ?_
        refine al_nil ?_
        refine awp_ret ?_
        repeat (first | refine thenS_ret ?_ | refine blockS_ret ?_)
        refine ret_ok rfl ?_ trivial
        ((repeat' (first | contradiction | split)) <;> rfl)
      · try simp only [n1, n2, n3, n4, n5, n6, n7, n8, n9, n10, n11, n12, n13, n14, n15, n16, strR_len] at hc1
        refine awp_seq ?_
        refine awp_region ?_
        refine al_pure rfl rfl rfl (pure_cmpS rfl rfl (fun _ => rfl) (fun _ => rfl) rfl) ?_
        refine al_pure rfl rfl rfl (pure_assign rfl (fun _ => rfl)) ?_
        refine al_nil ?_
        refine awp_cond rfl (fun hc2 => ?_) (fun hc2 => ?_)
        · try simp only [n1, n2, n3, n4, n5, n6, n7, n8, n9, n10, n11, n12, n13, n14, n15, n16, strR_len] at hc2
          refine awp_seq ?_
          refine awp_drawn' (by kernel_rfl) ?_
          refine dr_pure rfl rfl rfl rfl (pure_move rfl (fun _ => rfl)) ?_
          refine dr_pure rfl rfl rfl rfl (pure_indexAddr (j := 1) rfl rfl (fun _ => rfl) (fun _ => rfl) rfl rfl (by first | omega | (simp at hh; omega)) (fun hh => strR_at (by first | omega | (simp at hh; omega)))) ?_
          refine dr_pure rfl rfl rfl rfl (pure_loadRo rfl (fun _ => rfl) rfl rfl rfl) ?_
          refine dr_callN rfl rfl rfl rfl rfl rfl rfl (fun _ => rfl) (fun _ => rfl) (number_spec _) rfl ?_
          refine dr_pure rfl rfl rfl rfl (pure_build rfl Try.underlying62 rfl (fun _ => rfl)) ?_
          refine dr_pure rfl rfl rfl rfl (pure_move rfl (fun _ => rfl)) ?_
          refine dr_pure rfl rfl rfl rfl (pure_indexAddr (j := 1) rfl rfl (fun _ => rfl) (fun _ => rfl) rfl rfl (by first | omega | (simp at hh; omega)) (fun hh => strR_at (by first | omega | (simp at hh; omega)))) ?_
          refine dr_pure rfl rfl rfl rfl (pure_loadRo rfl (fun _ => rfl) rfl rfl rfl) ?_
          refine dr_callN rfl rfl rfl rfl rfl rfl rfl (fun _ => rfl) (fun _ => rfl) (number_spec _) rfl ?_
          refine dr_pure rfl rfl rfl rfl (pure_cmp rfl rfl (fun _ => rfl) (fun _ => rfl) rfl) ?_
          refine dr_store rfl rfl rfl rfl rfl rfl rfl rfl rfl rfl rfl rfl ?_
          refine dr_pure rfl rfl rfl rfl (pure_assign rfl (fun _ => rfl)) ?_
          refine dr_nil (by kernel_rfl) ?_
          refine awp_ret ?_
          repeat (first | refine thenS_ret ?_ | refine blockS_ret ?_)
          refine ret_ok rfl ?_ trivial
          ((repeat' (first | contradiction | split)) <;> rfl)
        · try simp only [n1, n2, n3, n4, n5, n6, n7, n8, n9, n10, n11, n12, n13, n14, n15, n16, strR_len] at hc2
          refine awp_seq ?_
          refine awp_region ?_
          refine al_pure rfl rfl rfl (pure_cmpS rfl rfl (fun _ => rfl) (fun _ => rfl) rfl) ?_
          refine al_pure rfl rfl rfl (pure_assign rfl (fun _ => rfl)) ?_
          refine al_nil ?_
          refine awp_cond rfl (fun hc3 => ?_) (fun hc3 => ?_)
          · try simp only [n1, n2, n3, n4, n5, n6, n7, n8, n9, n10, n11, n12, n13, n14, n15, n16, strR_len] at hc3
            refine awp_seq ?_
            refine awp_drawn' (by kernel_rfl) ?_
            refine dr_pure rfl rfl rfl rfl (pure_move rfl (fun _ => rfl)) ?_
            refine dr_pure rfl rfl rfl rfl (pure_indexAddr (j := 1) rfl rfl (fun _ => rfl) (fun _ => rfl) rfl rfl (by first | omega | (simp at hh; omega)) (fun hh => strR_at (by first | omega | (simp at hh; omega)))) ?_
            refine dr_pure rfl rfl rfl rfl (pure_loadRo rfl (fun _ => rfl) rfl rfl rfl) ?_
            refine dr_callN rfl rfl rfl rfl rfl rfl rfl (fun _ => rfl) (fun _ => rfl) (number_spec _) rfl ?_
            refine dr_pure rfl rfl rfl rfl (pure_build rfl Try.underlying62 rfl (fun _ => rfl)) ?_
            refine dr_pure rfl rfl rfl rfl (pure_move rfl (fun _ => rfl)) ?_
            refine dr_pure rfl rfl rfl rfl (pure_indexAddr (j := 1) rfl rfl (fun _ => rfl) (fun _ => rfl) rfl rfl (by first | omega | (simp at hh; omega)) (fun hh => strR_at (by first | omega | (simp at hh; omega)))) ?_
            refine dr_pure rfl rfl rfl rfl (pure_loadRo rfl (fun _ => rfl) rfl rfl rfl) ?_
            refine dr_callN rfl rfl rfl rfl rfl rfl rfl (fun _ => rfl) (fun _ => rfl) (number_spec _) rfl ?_
            refine dr_pure rfl rfl rfl rfl (pure_cmp rfl rfl (fun _ => rfl) (fun _ => rfl) rfl) ?_
            refine dr_store rfl rfl rfl rfl rfl rfl rfl rfl rfl rfl rfl rfl ?_
            refine dr_pure rfl rfl rfl rfl (pure_assign rfl (fun _ => rfl)) ?_
            refine dr_nil (by kernel_rfl) ?_
            refine awp_ret ?_
            repeat (first | refine thenS_ret ?_ | refine blockS_ret ?_)
            refine ret_ok rfl ?_ trivial
            ((repeat' (first | contradiction | split)) <;> rfl)
          · try simp only [n1, n2, n3, n4, n5, n6, n7, n8, n9, n10, n11, n12, n13, n14, n15, n16, strR_len] at hc3
            refine awp_seq ?_
            refine awp_region ?_
            refine al_pure rfl rfl rfl (pure_cmpS rfl rfl (fun _ => rfl) (fun _ => rfl) rfl) ?_
            refine al_pure rfl rfl rfl (pure_assign rfl (fun _ => rfl)) ?_
            refine al_nil ?_
            refine awp_sub (s := { t := [(0, _, _), (4, _, _), (6, _, _), (94, _, _)], bx := [((.l 4), _)], ow := [] }) (sub_mk (⟨⟨_, rfl, rfl⟩, ⟨⟨_, rfl, rfl⟩, ⟨⟨_, rfl, rfl⟩, ⟨⟨_, rfl, rfl⟩, trivial⟩⟩⟩⟩) (⟨⟨_, rfl, rfl⟩, trivial⟩) trivial) ?_
            refine awp_cond rfl (fun hc4 => ?_) (fun hc4 => ?_)
            · try simp only [n1, n2, n3, n4, n5, n6, n7, n8, n9, n10, n11, n12, n13, n14, n15, n16, strR_len] at hc4
              refine awp_seq ?_
              refine awp_region ?_
              refine al_pure rfl rfl rfl (pure_move rfl (fun _ => rfl)) ?_
              refine al_pure rfl rfl rfl (pure_move rfl (fun _ => rfl)) ?_
              refine al_pure rfl rfl rfl (pure_indexAddr (j := 1) rfl rfl (fun _ => rfl) (fun _ => rfl) rfl rfl (by first | omega | (simp at hh; omega)) (fun hh => strR_at (by first | omega | (simp at hh; omega)))) ?_
              refine al_pure rfl rfl rfl (pure_loadRo rfl (fun _ => rfl) rfl rfl rfl) ?_
              refine al_call rfl rfl rfl rfl rfl rfl (fun _ => rfl) (fun _ => rfl) (find_spec _ _ _ rfl) rfl ?_
              refine al_pure rfl rfl rfl (pure_assign rfl (fun _ => rfl)) ?_
              refine al_nil ?_
              refine awp_sub (s := { t := [(4, _, _), (10, _, _)], bx := [((.l 4), _)], ow := [] }) (sub_mk (⟨⟨_, rfl, rfl⟩, ⟨⟨_, rfl, rfl⟩, trivial⟩⟩) (⟨⟨_, rfl, rfl⟩, trivial⟩) trivial) ?_
              refine awp_seq ?_
              refine awp_region ?_
              refine al_pure rfl rfl rfl (pure_move rfl (fun _ => rfl)) ?_
              refine al_pure rfl rfl rfl (pure_build rfl Try.underlying62 rfl (fun _ => rfl)) ?_
              refine al_pure rfl rfl rfl (pure_move rfl (fun _ => rfl)) ?_
              refine al_pure rfl rfl rfl (pure_cmp rfl rfl (fun _ => rfl) (fun _ => rfl) rfl) ?_
              refine al_do rfl (does_store rfl rfl rfl rfl rfl rfl rfl) ?_
              refine al_pure rfl rfl rfl (pure_assign rfl (fun _ => rfl)) ?_
              refine al_nil ?_
              refine awp_ret ?_
              repeat (first | refine thenS_ret ?_ | refine blockS_ret ?_)
              refine ret_ok rfl ?_ trivial
              ((repeat' (first | contradiction | split)) <;> rfl)
            · try simp only [n1, n2, n3, n4, n5, n6, n7, n8, n9, n10, n11, n12, n13, n14, n15, n16, strR_len] at hc4
              refine awp_skip ?_
              refine awp_seq ?_
              refine awp_region ?_
              refine al_pure rfl rfl rfl (pure_build rfl Try.underlying62 rfl (fun _ => rfl)) ?_
              refine al_do rfl (does_store rfl rfl rfl rfl rfl rfl rfl) ?_
              refine al_pure rfl rfl rfl (pure_assign rfl (fun _ => rfl)) ?_
              refine al_nil ?_
              refine awp_ret ?_
              repeat (first | refine thenS_ret ?_ | refine blockS_ret ?_)
              refine ret_ok rfl ?_ trivial
              ((repeat' (first | contradiction | split)) <;> rfl)
end Go.Proofs.Ytgjclggjkhapfaa
/- Contracts: the reference reads tables of formats from texts; small tables. -/
set_option linter.unusedVariables false
set_option linter.unusedSimpArgs false
namespace Go.Proofs.Ytgjclggjkhapfaa
open Go Go.Abs
def parseFields (t : List Fm) : List (List UInt8) → List Fd → Option (List Fd)
  | [], acc => some acc
  | w :: ws, acc => if (readE t w).2 = true then parseFields t ws (acc ++ [(readE t w).1]) else none
def parseLines : List (List UInt8) → List Fm → Option (List Fm)
  | [], out => some out
  | l :: ls, out => if (splitE l [58, 32]).length ≠ 2 then none else match parseFields out (splitE ((splitE l [58, 32]).getD 1 []) [44, 32]) [] with
    | none => none
    | some fs => parseLines ls (out ++ [⟨(splitE l [58, 32]).getD 0 [], fs⟩])
def parseE (s : List UInt8) : List Fm × Int :=
  if 2000 < s.length then ([], 3) else if (splitE s [10]).getD ((splitE s [10]).length - 1) [] ≠ [] then ([], 2)
  else match parseLines ((splitE s [10]).take ((splitE s [10]).length - 1)) [] with
    | none => ([], 2)
    | some out => if validE out ≠ 0 then ([], validE out) else (out, 0)
theorem Fd.rows_snoc (l : List Fd) (f : Fd) : Fd.rows l ++ [f.cells] = Fd.rows (l ++ [f]) := by simp [Fd.rows]
theorem Fm.rows_snoc (l : List Fm) (f : Fm) : Fm.rows l ++ [f.cells] = Fm.rows (l ++ [f]) := by simp [Fm.rows]
theorem xfd_snoc (l : List Fd) (f : Fd) : X.v (.c (.sl 5 (Fd.rows l ++ [f.cells]))) = xfs (l ++ [f]) := by simp [xfs, Fd.rows]
theorem xfm_snoc (l : List Fm) (f : Fm) : X.v (.c (.sl 2 (Fm.rows l ++ [f.cells]))) = xtab (l ++ [f]) := by simp [xtab, Fm.rows]
theorem parseFields_none {t : List Fm} {ws : List (List UInt8)} {acc : List Fd} {R : Option (List Fd)} (h : parseFields t ws acc = R) : parseFields t ws acc = R := h
abbrev xtabe (p : List Fm × Int) : X := .tup [.c (.sl 2 (Fm.rows p.1)), .c (.i .i64 p.2)]
theorem Parse_spec (s : List UInt8) : Ctr sys 34 [xs s] [] (xtabe (parseE s)) none [] := by
  unfold parseE
  have hsl := splitE_len s [10]
  have hg := splitE_get s [10]
  have hrl := strR_len (splitE s [10])
  refine spec_intro Try.func34 rfl rfl rfl rfl rfl rfl ?_
  refine awp_seq ?_
  refine awp_region ?_
  refine al_do rfl (does_nil (.inr rfl) rfl rfl) ?_
  refine al_pure rfl rfl rfl (pure_assign rfl (fun _ => rfl)) ?_
  refine al_nil ?_
  refine awp_seq ?_
  refine awp_seq ?_
  refine awp_region ?_
  refine al_pure rfl rfl rfl (pure_move rfl (fun _ => rfl)) ?_
  refine al_lenS rfl rfl rfl rfl rfl (fun _ => rfl) (Try.underlying9) ?_ (fun hh => by simp at hh); intro hlen
  refine al_pure rfl rfl rfl (pure_cmp rfl rfl (fun _ => rfl) (fun _ => rfl) rfl) ?_
  refine al_nil ?_
  refine awp_sub (s := { t := [(0, _, _), (16, _, _)], bx := [], ow := [] }) (sub_mk (⟨⟨_, rfl, rfl⟩, ⟨⟨_, rfl, rfl⟩, trivial⟩⟩) trivial trivial) ?_
  refine awp_cond rfl (fun hc => ?_) (fun hc => ?_)
  · try simp only [n1, n2, n3, n4, n5, n6, n7, n8, n9, n10, n11, n12, n13, n14, n15, n16, strR_len] at hc
    refine awp_seq ?_
    refine awp_region ?_
    refine al_do rfl (does_nil (.inr rfl) rfl rfl) ?_
    refine al_pure rfl rfl rfl (pure_assign rfl (fun _ => rfl)) ?_
    refine al_nil ?_
    refine awp_ret ?_
    repeat (first | refine thenS_ret ?_ | refine blockS_ret ?_)
    refine ret_ok rfl ?_ trivial
    (rw [if_pos (by omega)]; rfl)
  · try simp only [n1, n2, n3, n4, n5, n6, n7, n8, n9, n10, n11, n12, n13, n14, n15, n16, strR_len] at hc
    rw [if_neg (by omega)]
    refine awp_skip ?_
    refine awp_seq ?_
    refine awp_region ?_
    refine al_pure rfl rfl rfl (pure_move rfl (fun _ => rfl)) ?_
    refine al_call rfl rfl rfl rfl rfl rfl (fun _ => rfl) (fun _ => rfl) (split_spec s [10] (by omega) (by decide) (by decide)) rfl ?_
    refine al_pure rfl rfl rfl (pure_assign rfl (fun _ => rfl)) ?_
    refine al_nil ?_
    refine awp_seq ?_
    refine awp_seq ?_
    refine awp_region ?_
    refine al_pure rfl rfl rfl (pure_move rfl (fun _ => rfl)) ?_
    refine al_pure rfl rfl rfl (pure_move rfl (fun _ => rfl)) ?_
    refine al_lenSl rfl rfl rfl rfl rfl (fun _ => rfl) rfl rfl ?_ (fun hh => by simp at hh); intro hlen
    refine al_pure rfl rfl rfl (pure_arith rfl rfl (fun _ => rfl) (fun _ => rfl) rfl (IntWalk.i64_in _ (by omega))) ?_
    refine al_pure rfl rfl rfl (pure_indexAddr (j := (splitE s [10]).length - 1) rfl rfl (fun _ => rfl) (fun _ => rfl) rfl rfl (by omega) (fun hh => strR_at (by omega))) ?_
    refine al_pure rfl rfl rfl (pure_loadRo rfl (fun _ => rfl) rfl rfl rfl) ?_
    refine al_pure rfl rfl rfl (pure_cmpS rfl rfl (fun _ => rfl) (fun _ => rfl) rfl) ?_
    refine al_nil ?_
    refine awp_sub (s := { t := [(4, _, _), (25, _, _)], bx := [], ow := [] }) (sub_mk (⟨⟨_, rfl, rfl⟩, ⟨⟨_, rfl, rfl⟩, trivial⟩⟩) trivial trivial) ?_
    refine awp_cond rfl (fun hc2 => ?_) (fun hc2 => ?_)
    · try simp only [n1, n2, n3, n4, n5, n6, n7, n8, n9, n10, n11, n12, n13, n14, n15, n16, strR_len] at hc2
      refine awp_seq ?_
      refine awp_region ?_
      refine al_do rfl (does_nil (.inr rfl) rfl rfl) ?_
      refine al_pure rfl rfl rfl (pure_assign rfl (fun _ => rfl)) ?_
      refine al_nil ?_
      refine awp_ret ?_
      repeat (first | refine thenS_ret ?_ | refine blockS_ret ?_)
      refine ret_ok rfl ?_ trivial
      (rw [if_pos (by exact hc2)]; rfl)
    · try simp only [n1, n2, n3, n4, n5, n6, n7, n8, n9, n10, n11, n12, n13, n14, n15, n16, strR_len] at hc2
      rw [if_neg (by simpa using hc2)]
      generalize hL : splitE s [10] = L at *
      refine awp_skip ?_
      refine awp_seq ?_
      refine awp_region ?_
      refine al_do rfl (does_nil (.inr rfl) rfl rfl) ?_
      refine al_nil ?_
      refine awp_seq ?_
      refine awp_seq ?_
      refine awp_region ?_
      refine al_pure rfl rfl rfl (pure_assign rfl (fun _ => rfl)) ?_
      refine al_nil ?_
      refine awp_block ?_
      refine awp_for (ι := Nat × List Fm) { t := [(4, _, _)], bx := [], ow := [((.t 5), _)] } (fun p => [(6, true, xi (p.1 : Int)), (5, true, xtab p.2)]) (fun p => []) (fun p => p.1 + 1 ≤ L.length ∧ p.2.length ≤ p.1 ∧ parseLines ((L.take (L.length - 1)).drop p.1) p.2 = parseLines (L.take (L.length - 1)) []) (fun p => L.length - p.1) ((0, [])) (⟨by simp; omega, by simp, rfl⟩) (sub_mk (⟨⟨_, rfl, rfl⟩, ⟨⟨_, rfl, rfl⟩, ⟨⟨_, rfl, rfl⟩, trivial⟩⟩⟩) trivial (⟨rfl, trivial⟩)) ?_
      intro p hok
      dsimp only [List.cons_append, List.nil_append] at *
      obtain ⟨k, out⟩ := p
      dsimp only at hok ⊢
      obtain ⟨h1, h2, h3⟩ := hok
      refine awp_seq ?_
      refine awp_seq ?_
      refine awp_region ?_
      refine al_pure rfl rfl rfl (pure_move rfl (fun _ => rfl)) ?_
      refine al_pure rfl rfl rfl (pure_move rfl (fun _ => rfl)) ?_
      refine al_lenSl rfl rfl rfl rfl rfl (fun _ => rfl) rfl rfl ?_ (fun hh => by simp at hh); intro hlen
      refine al_pure rfl rfl rfl (pure_arith rfl rfl (fun _ => rfl) (fun _ => rfl) rfl (IntWalk.i64_in _ (by omega))) ?_
      refine al_pure rfl rfl rfl (pure_cmp rfl rfl (fun _ => rfl) (fun _ => rfl) rfl) ?_
      refine al_nil ?_
      refine awp_sub (s := { t := [(4, _, _), (5, _, _), (6, _, _), (30, _, _)], bx := [], ow := [((.t 5), _)] }) (sub_mk (⟨⟨_, rfl, rfl⟩, ⟨⟨_, rfl, rfl⟩, ⟨⟨_, rfl, rfl⟩, ⟨⟨_, rfl, rfl⟩, trivial⟩⟩⟩⟩) trivial (⟨rfl, trivial⟩)) ?_
      refine awp_cond rfl (fun hc3 => ?_) (fun hc3 => ?_)
      · try simp only [n1, n2, n3, n4, n5, n6, n7, n8, n9, n10, n11, n12, n13, n14, n15, n16, strR_len] at hc3
        have hk : (L.take (L.length - 1)).getD k [] = L.getD k [] := getD_take _ _ (by omega)
        rw [dropD (d := []) (by simp; omega), hk, parseLines] at h3
        have hgk := hg k
        have hpl := splitE_len (L.getD k []) [58, 32]
        have hpg := splitE_get (L.getD k []) [58, 32] 1
        have hpr := strR_len (splitE (L.getD k []) [58, 32])
        refine awp_skip ?_
        refine awp_seq ?_
        refine awp_block ?_
        refine awp_seq ?_
        refine awp_region ?_
        refine al_pure rfl rfl rfl (pure_move rfl (fun _ => rfl)) ?_
        refine al_pure rfl rfl rfl (pure_move rfl (fun _ => rfl)) ?_
        refine al_pure rfl rfl rfl (pure_indexAddr rfl rfl (fun _ => rfl) (fun _ => rfl) rfl rfl rfl (fun hh => strR_at (by omega))) ?_
        refine al_pure rfl rfl rfl (pure_loadRo rfl (fun _ => rfl) rfl rfl rfl) ?_
        refine al_call rfl rfl rfl rfl rfl rfl (fun _ => rfl) (fun _ => rfl) (split_spec _ [58, 32] (by omega) (by decide) (by decide)) rfl ?_
        refine al_pure rfl rfl rfl (pure_assign rfl (fun _ => rfl)) ?_
        refine al_nil ?_
        refine awp_sub (s := { t := [(4, _, _), (5, _, _), (6, _, _), (7, _, _)], bx := [], ow := [((.t 5), _)] }) (sub_mk (⟨⟨_, rfl, rfl⟩, ⟨⟨_, rfl, rfl⟩, ⟨⟨_, rfl, rfl⟩, ⟨⟨_, rfl, rfl⟩, trivial⟩⟩⟩⟩) trivial (⟨rfl, trivial⟩)) ?_
        refine awp_seq ?_
        refine awp_seq ?_
        refine awp_region ?_
        refine al_pure rfl rfl rfl (pure_move rfl (fun _ => rfl)) ?_
        refine al_lenSl rfl rfl rfl rfl rfl (fun _ => rfl) rfl rfl ?_ (fun hh => by simp at hh); intro hlen
        refine al_pure rfl rfl rfl (pure_cmp rfl rfl (fun _ => rfl) (fun _ => rfl) rfl) ?_
        refine al_nil ?_
        refine awp_cond rfl (fun hc4 => ?_) (fun hc4 => ?_)
        · try simp only [n1, n2, n3, n4, n5, n6, n7, n8, n9, n10, n11, n12, n13, n14, n15, n16, strR_len] at hc4
          rw [if_pos (by omega)] at h3
          refine awp_seq ?_
          refine awp_region ?_
          refine al_do rfl (does_nil (.inr rfl) rfl rfl) ?_
          refine al_pure rfl rfl rfl (pure_assign rfl (fun _ => rfl)) ?_
          refine al_nil ?_
          refine awp_ret ?_
          repeat (first | refine thenS_ret ?_ | refine blockS_ret ?_)
          refine ret_ok rfl ?_ trivial
          (rw [← h3]; rfl)
        · try simp only [n1, n2, n3, n4, n5, n6, n7, n8, n9, n10, n11, n12, n13, n14, n15, n16, strR_len] at hc4
          rw [if_neg (by omega)] at h3
          generalize hP : splitE (L.getD k []) [58, 32] = P at *
          have hwl := splitE_len (P.getD 1 []) [44, 32]
          have hwg := splitE_get (P.getD 1 []) [44, 32]
          have hwr := strR_len (splitE (P.getD 1 []) [44, 32])
          refine awp_skip ?_
          refine awp_seq ?_
          refine awp_region ?_
          refine al_pure rfl rfl rfl (pure_move rfl (fun _ => rfl)) ?_
          refine al_pure rfl rfl rfl (pure_indexAddr (j := 0) rfl rfl (fun _ => rfl) (fun _ => rfl) rfl rfl (by omega) (fun hh => strR_at (by omega))) ?_
          refine al_pure rfl rfl rfl (pure_loadRo rfl (fun _ => rfl) rfl rfl rfl) ?_
          refine al_pure rfl rfl rfl (pure_buildX rfl Try.underlying60 rfl (fun _ => rfl)) ?_
          refine al_do rfl (does_alloc rfl rfl rfl) ?_
          refine al_do rfl (does_store rfl rfl rfl rfl rfl rfl rfl) ?_
          refine al_nil ?_
          refine awp_sub (s := { t := [(4, _, _), (5, _, _), (6, _, _), (7, _, _), (8, _, _)], bx := [((.l 8), _)], ow := [((.t 5), _)] }) (sub_mk (⟨⟨_, rfl, rfl⟩, ⟨⟨_, rfl, rfl⟩, ⟨⟨_, rfl, rfl⟩, ⟨⟨_, rfl, rfl⟩, ⟨⟨_, rfl, rfl⟩, trivial⟩⟩⟩⟩⟩) (⟨⟨_, rfl, rfl⟩, trivial⟩) (⟨rfl, trivial⟩)) ?_
          refine awp_seq ?_
          refine awp_region ?_
          refine al_pure rfl rfl rfl (pure_move rfl (fun _ => rfl)) ?_
          refine al_pure rfl rfl rfl (pure_indexAddr (j := 1) rfl rfl (fun _ => rfl) (fun _ => rfl) rfl rfl (by omega) (fun hh => strR_at (by omega))) ?_
          refine al_pure rfl rfl rfl (pure_loadRo rfl (fun _ => rfl) rfl rfl rfl) ?_
          refine al_call rfl rfl rfl rfl rfl rfl (fun _ => rfl) (fun _ => rfl) (split_spec _ [44, 32] (by omega) (by decide) (by decide)) rfl ?_
          refine al_pure rfl rfl rfl (pure_assign rfl (fun _ => rfl)) ?_
          refine al_nil ?_
          refine awp_sub (s := { t := [(4, _, _), (5, _, _), (6, _, _), (8, _, _), (9, _, _)], bx := [((.l 8), _)], ow := [((.t 5), _)] }) (sub_mk (⟨⟨_, rfl, rfl⟩, ⟨⟨_, rfl, rfl⟩, ⟨⟨_, rfl, rfl⟩, ⟨⟨_, rfl, rfl⟩, ⟨⟨_, rfl, rfl⟩, trivial⟩⟩⟩⟩⟩) (⟨⟨_, rfl, rfl⟩, trivial⟩) (⟨rfl, trivial⟩)) ?_
          refine awp_seq ?_
          refine awp_seq ?_
          refine awp_region ?_
          refine al_pure rfl rfl rfl (pure_assign rfl (fun _ => rfl)) ?_
          refine al_nil ?_
          refine awp_block ?_
          generalize hW : splitE (P.getD 1 []) [44, 32] = W at *
          refine awp_own (.l 8) 1 5 rfl rfl rfl ?_
          refine awp_for (ι := Nat × List Fd) { t := [(4, _, _), (5, _, _), (6, _, _), (8, _, _), (9, _, _)], bx := [], ow := [((.b (.l 8) 1), _), ((.t 5), _)] } (fun q => [(10, true, xi (q.1 : Int))]) (fun q => [((.l 8), [.s (P.getD 0 []), .sl 5 (Fd.rows q.2)])]) (fun q => q.1 ≤ W.length ∧ q.2.length ≤ q.1 ∧ parseFields out (W.drop q.1) q.2 = parseFields out W []) (fun q => W.length - q.1) ((0, [])) (⟨by simp, by simp, rfl⟩) (sub_mk (⟨⟨_, rfl, rfl⟩, ⟨⟨_, rfl, rfl⟩, ⟨⟨_, rfl, rfl⟩, ⟨⟨_, rfl, rfl⟩, ⟨⟨_, rfl, rfl⟩, ⟨⟨_, rfl, rfl⟩, trivial⟩⟩⟩⟩⟩⟩) (⟨⟨_, rfl, rfl⟩, trivial⟩) (⟨rfl, ⟨rfl, trivial⟩⟩)) ?_
          intro q hok2
          dsimp only [List.cons_append, List.nil_append] at *
          obtain ⟨j, fs⟩ := q
          dsimp only at hok2 ⊢
          obtain ⟨g1, g2, g3⟩ := hok2
          have hwj := hwg j
          refine awp_seq ?_
          refine awp_seq ?_
          refine awp_region ?_
          refine al_pure rfl rfl rfl (pure_move rfl (fun _ => rfl)) ?_
          refine al_pure rfl rfl rfl (pure_move rfl (fun _ => rfl)) ?_
          refine al_lenSl rfl rfl rfl rfl rfl (fun _ => rfl) rfl rfl ?_ (fun hh => by simp at hh); intro hlen
          refine al_pure rfl rfl rfl (pure_cmp rfl rfl (fun _ => rfl) (fun _ => rfl) rfl) ?_
          refine al_nil ?_
          refine awp_cond rfl (fun hc5 => ?_) (fun hc5 => ?_)
          · try simp only [n1, n2, n3, n4, n5, n6, n7, n8, n9, n10, n11, n12, n13, n14, n15, n16, strR_len] at hc5
            rw [dropD (d := []) (by omega), parseFields] at g3
            refine awp_skip ?_
            refine awp_seq ?_
            refine awp_block ?_
            refine awp_seq ?_
            refine awp_region ?_
            refine al_pure rfl rfl rfl (pure_move rfl (fun _ => rfl)) ?_
            refine al_pure rfl rfl rfl (pure_move rfl (fun _ => rfl)) ?_
            refine al_pure rfl rfl rfl (pure_move rfl (fun _ => rfl)) ?_
            refine al_pure rfl rfl rfl (pure_indexAddr rfl rfl (fun _ => rfl) (fun _ => rfl) rfl rfl rfl (fun hh => strR_at (by omega))) ?_
            refine al_pure rfl rfl rfl (pure_loadRo rfl (fun _ => rfl) rfl rfl rfl) ?_
            refine al_call rfl rfl rfl rfl rfl rfl (fun _ => rfl) (fun _ => rfl) (read_spec _ _ (by omega)) rfl ?_
            refine al_pure rfl rfl rfl (pure_move rfl (fun _ => rfl)) ?_
            refine al_pure rfl rfl rfl (pure_extract rfl (fun _ => rfl) rfl) ?_
            refine al_sub (s := { t := [(4, _, _), (5, _, _), (6, _, _), (8, _, _), (9, _, _), (10, _, _), (55, _, _), (62, _, _)], bx := [((.l 8), _)], ow := [((.b (.l 8) 1), _), ((.t 5), _)] }) (sub_mk (⟨⟨_, rfl, rfl⟩, ⟨⟨_, rfl, rfl⟩, ⟨⟨_, rfl, rfl⟩, ⟨⟨_, rfl, rfl⟩, ⟨⟨_, rfl, rfl⟩, ⟨⟨_, rfl, rfl⟩, ⟨⟨_, rfl, rfl⟩, ⟨⟨_, rfl, rfl⟩, trivial⟩⟩⟩⟩⟩⟩⟩⟩) (⟨⟨_, rfl, rfl⟩, trivial⟩) (⟨rfl, ⟨rfl, trivial⟩⟩)) ?_
            refine al_pure rfl rfl rfl (pure_extract rfl (fun _ => rfl) rfl) ?_
            refine al_do rfl (does_alloc rfl rfl rfl) ?_
            refine al_do rfl (does_store rfl rfl rfl rfl rfl rfl rfl) ?_
            refine al_pure rfl rfl rfl (pure_assign rfl (fun _ => rfl)) ?_
            refine al_nil ?_
            refine awp_seq ?_
            refine awp_seq ?_
            refine awp_region ?_
            refine al_pure rfl rfl rfl (pure_move rfl (fun _ => rfl)) ?_
            refine al_pure rfl rfl rfl (pure_not rfl (fun _ => rfl)) ?_
            refine al_nil ?_
            refine awp_sub (s := { t := [(4, _, _), (5, _, _), (6, _, _), (8, _, _), (9, _, _), (10, _, _), (11, _, _), (65, _, _)], bx := [((.l 11), _), ((.l 8), _)], ow := [((.b (.l 8) 1), _), ((.t 5), _)] }) (sub_mk (⟨⟨_, rfl, rfl⟩, ⟨⟨_, rfl, rfl⟩, ⟨⟨_, rfl, rfl⟩, ⟨⟨_, rfl, rfl⟩, ⟨⟨_, rfl, rfl⟩, ⟨⟨_, rfl, rfl⟩, ⟨⟨_, rfl, rfl⟩, ⟨⟨_, rfl, rfl⟩, trivial⟩⟩⟩⟩⟩⟩⟩⟩) (⟨⟨_, rfl, rfl⟩, ⟨⟨_, rfl, rfl⟩, trivial⟩⟩) (⟨rfl, ⟨rfl, trivial⟩⟩)) ?_
            refine awp_cond rfl (fun hc6 => ?_) (fun hc6 => ?_)
            · try simp only [n1, n2, n3, n4, n5, n6, n7, n8, n9, n10, n11, n12, n13, n14, n15, n16, strR_len] at hc6
              rw [if_neg (by rw [hc6]; simp)] at g3
              rw [← g3] at h3
              refine awp_seq ?_
              refine awp_region ?_
              refine al_do rfl (does_nil (.inr rfl) rfl rfl) ?_
              refine al_pure rfl rfl rfl (pure_assign rfl (fun _ => rfl)) ?_
              refine al_nil ?_
              refine awp_ret ?_
              repeat (first | refine thenS_ret ?_ | refine blockS_ret ?_)
              refine ret_ok rfl ?_ trivial
              (rw [← h3]; rfl)
            · try simp only [n1, n2, n3, n4, n5, n6, n7, n8, n9, n10, n11, n12, n13, n14, n15, n16, strR_len] at hc6
              rw [if_pos hc6] at g3
              refine awp_skip ?_
              refine awp_region ?_
              refine al_pure rfl rfl rfl (pure_fieldPtr rfl (fun _ => rfl) rfl rfl) ?_
              refine al_do rfl (does_loadTake rfl rfl rfl rfl rfl rfl rfl) ?_
              refine al_pure rfl rfl rfl (pure_loadBoxRow rfl (fun _ => rfl) rfl rfl rfl rfl rfl) ?_
              refine al_buildSlice (xs := [_]) rfl rfl rfl rfl rfl rfl rfl rfl rfl (fun _ => rfl) rfl ?_
              refine al_do rfl (does_append rfl rfl rfl rfl rfl rfl rfl (by simp [Fd.rows_len, Fm.rows_len]; omega) (by simp [Fd.rows_len, Fm.rows_len]; omega)) ?_
              refine al_pure rfl rfl rfl (pure_fieldPtr rfl (fun _ => rfl) rfl rfl) ?_
              refine al_do rfl (does_storeOwn rfl rfl rfl rfl rfl rfl rfl) ?_
              refine al_nil ?_
              refine awp_sub (s := { t := [(4, _, _), (5, _, _), (6, _, _), (8, _, _), (9, _, _), (10, _, _)], bx := [((.l 8), _)], ow := [((.b (.l 8) 1), _), ((.t 5), _)] }) (sub_mk (⟨⟨_, rfl, rfl⟩, ⟨⟨_, rfl, rfl⟩, ⟨⟨_, rfl, rfl⟩, ⟨⟨_, rfl, rfl⟩, ⟨⟨_, rfl, rfl⟩, ⟨⟨_, rfl, rfl⟩, trivial⟩⟩⟩⟩⟩⟩) (⟨⟨_, rfl, rfl⟩, trivial⟩) (⟨rfl, ⟨rfl, trivial⟩⟩)) ?_
              refine awp_region ?_
              refine al_pure rfl rfl rfl (pure_move rfl (fun _ => rfl)) ?_
              refine al_pure rfl rfl rfl (pure_arith rfl rfl (fun _ => rfl) (fun _ => rfl) rfl (IntWalk.i64_in _ (by omega))) ?_
              refine al_pure rfl rfl rfl (pure_assign rfl (fun _ => rfl)) ?_
              refine al_nil ?_
              refine ⟨(j + 1, fs ++ [(readE out (W.getD j [])).1]), ?_, ?_, sub_mk (⟨⟨_, rfl, ?_⟩, ⟨⟨_, rfl, rfl⟩, ⟨⟨_, rfl, rfl⟩, ⟨⟨_, rfl, rfl⟩, ⟨⟨_, rfl, rfl⟩, ⟨⟨_, rfl, rfl⟩, trivial⟩⟩⟩⟩⟩⟩) (⟨⟨_, rfl, ?_⟩, trivial⟩) (⟨rfl, ⟨rfl, trivial⟩⟩)⟩
              · exact ⟨by dsimp only; omega, by simp; omega, g3⟩
              · dsimp only; omega
              · rfl
              · show [C.s _, C.sl 5 (Fd.rows fs ++ [(readE out (W.getD j [])).1.cells])] = _
                rw [Fd.rows_snoc]
          · try simp only [n1, n2, n3, n4, n5, n6, n7, n8, n9, n10, n11, n12, n13, n14, n15, n16, strR_len] at hc5
            rw [List.drop_of_length_le (by omega), parseFields] at g3
            rw [← g3] at h3
            refine awp_exit ?_
            repeat (first | refine thenS_exit ?_ | refine blockS_hit ?_ | refine blockS_miss rfl ?_)
            refine awp_region ?_
            refine al_do rfl (does_take (.inl rfl) rfl rfl rfl) ?_
            refine al_pure rfl rfl rfl (pure_loadBoxRow rfl (fun _ => rfl) rfl rfl rfl rfl rfl) ?_
            refine al_buildSlice (xs := [_]) rfl rfl rfl rfl rfl rfl rfl rfl rfl (fun _ => rfl) rfl ?_
            refine al_do rfl (does_append rfl rfl rfl rfl rfl rfl rfl (by simp [Fd.rows_len, Fm.rows_len]; omega) (by simp [Fd.rows_len, Fm.rows_len]; omega)) ?_
            refine al_do rfl (does_take (.inr rfl) rfl rfl rfl) ?_
            refine al_nil ?_
            refine awp_sub (s := { t := [(4, _, _), (5, _, _), (6, _, _)], bx := [], ow := [((.t 5), _)] }) (sub_mk (⟨⟨_, rfl, rfl⟩, ⟨⟨_, rfl, rfl⟩, ⟨⟨_, rfl, rfl⟩, trivial⟩⟩⟩) trivial (⟨rfl, trivial⟩)) ?_
            refine awp_region ?_
            refine al_pure rfl rfl rfl (pure_move rfl (fun _ => rfl)) ?_
            refine al_pure rfl rfl rfl (pure_arith rfl rfl (fun _ => rfl) (fun _ => rfl) rfl (IntWalk.i64_in _ (by omega))) ?_
            refine al_pure rfl rfl rfl (pure_assign rfl (fun _ => rfl)) ?_
            refine al_nil ?_
            refine ⟨(k + 1, out ++ [⟨P.getD 0 [], fs⟩]), ?_, ?_, sub_mk (⟨⟨_, rfl, ?_⟩, ⟨⟨_, rfl, ?_⟩, ⟨⟨_, rfl, rfl⟩, trivial⟩⟩⟩) trivial (⟨rfl, trivial⟩)⟩
            · exact ⟨by dsimp only; omega, by simp; omega, h3⟩
            · dsimp only; omega
            · rfl
            · exact tx (xfm_snoc _ ⟨P.getD 0 [], fs⟩)
      · try simp only [n1, n2, n3, n4, n5, n6, n7, n8, n9, n10, n11, n12, n13, n14, n15, n16, strR_len] at hc3
        rw [List.drop_of_length_le (by simp; omega), parseLines] at h3
        rw [← h3]
        dsimp only
        refine awp_exit ?_
        repeat (first | refine thenS_exit ?_ | refine blockS_hit ?_ | refine blockS_miss rfl ?_)
        refine awp_seq ?_
        refine awp_seq ?_
        refine awp_region ?_
        refine al_pure rfl rfl rfl (pure_move rfl (fun _ => rfl)) ?_
        refine al_call rfl rfl rfl rfl rfl rfl (fun _ => rfl) (fun _ => rfl) (rValid_spec _) rfl ?_
        refine al_pure rfl rfl rfl (pure_assign rfl (fun _ => rfl)) ?_
        refine al_nil ?_
        refine awp_seq ?_
        refine awp_region ?_
        refine al_pure rfl rfl rfl (pure_move rfl (fun _ => rfl)) ?_
        refine al_pure rfl rfl rfl (pure_cmp rfl rfl (fun _ => rfl) (fun _ => rfl) rfl) ?_
        refine al_nil ?_
        refine awp_sub (s := { t := [(5, _, _), (13, _, _), (79, _, _)], bx := [], ow := [((.t 5), _)] }) (sub_mk (⟨⟨_, rfl, rfl⟩, ⟨⟨_, rfl, rfl⟩, ⟨⟨_, rfl, rfl⟩, trivial⟩⟩⟩) trivial (⟨rfl, trivial⟩)) ?_
        refine awp_cond rfl (fun hc4 => ?_) (fun hc4 => ?_)
        · try simp only [n1, n2, n3, n4, n5, n6, n7, n8, n9, n10, n11, n12, n13, n14, n15, n16, strR_len] at hc4
          refine awp_seq ?_
          refine awp_region ?_
          refine al_pure rfl rfl rfl (pure_move rfl (fun _ => rfl)) ?_
          refine al_do rfl (does_nil (.inr rfl) rfl rfl) ?_
          refine al_pure rfl rfl rfl (pure_assign rfl (fun _ => rfl)) ?_
          refine al_nil ?_
          refine awp_ret ?_
          repeat (first | refine thenS_ret ?_ | refine blockS_ret ?_)
          refine ret_ok rfl ?_ trivial
          (rw [if_pos hc4]; rfl)
        · try simp only [n1, n2, n3, n4, n5, n6, n7, n8, n9, n10, n11, n12, n13, n14, n15, n16, strR_len] at hc4
          refine awp_skip ?_
          refine awp_seq ?_
          refine awp_region ?_
          refine al_do rfl (does_take (.inl rfl) rfl rfl rfl) ?_
          refine al_do rfl (does_take (.inr rfl) rfl rfl rfl) ?_
          refine al_pure rfl rfl rfl (pure_assign rfl (fun _ => rfl)) ?_
          refine al_nil ?_
          refine awp_ret ?_
          repeat (first | refine thenS_ret ?_ | refine blockS_ret ?_)
          refine ret_ok rfl ?_ trivial
          (rw [if_neg (by simpa using hc4)]; rfl)
def fewF (f : Fm) : Bool := decide (f.name.length ≤ 100) && decide (f.fields.length ≤ 12) && f.fields.all fun x => decide (x.bytes.length ≤ 40)
def fewT (t : List Fm) : Bool := decide (t.length ≤ 12) && t.all fewF
theorem Few_spec (t : List Fm) : Ctr sys 11 [xtab t] [] (xb (fewT t)) none [] := by
  have hrl := Fm.rows_len t
  refine spec_intro Try.func11 rfl rfl rfl rfl rfl rfl ?_
  refine awp_seq ?_
  refine awp_region ?_
  refine al_pure rfl rfl rfl (pure_assign rfl (fun _ => rfl)) ?_
  refine al_nil ?_
  refine awp_seq ?_
  refine awp_seq ?_
  refine awp_region ?_
  refine al_pure rfl rfl rfl (pure_move rfl (fun _ => rfl)) ?_
  refine al_lenSl rfl rfl rfl rfl rfl (fun _ => rfl) rfl rfl ?_ (fun hh => by simp at hh); intro hlen
  refine al_pure rfl rfl rfl (pure_cmp rfl rfl (fun _ => rfl) (fun _ => rfl) rfl) ?_
  refine al_nil ?_
  refine awp_cond rfl (fun hc => ?_) (fun hc => ?_)
  · try simp only [n1, n2, n3, n4, n5, n6, n7, n8, n9, n10, n11, n12, n13, n14, n15, n16, Fm.rows_len, Fd.rows_len] at hc
    refine awp_seq ?_
    refine awp_region ?_
    refine al_pure rfl rfl rfl (pure_assign rfl (fun _ => rfl)) ?_
    refine al_nil ?_
    refine awp_ret ?_
    repeat (first | refine thenS_ret ?_ | refine blockS_ret ?_)
    refine ret_ok rfl ?_ trivial
    exact xb_eq (by simp [fewT]; omega)
  · try simp only [n1, n2, n3, n4, n5, n6, n7, n8, n9, n10, n11, n12, n13, n14, n15, n16, Fm.rows_len, Fd.rows_len] at hc
    have he : fewT t = t.all fewF := by simp [fewT]; omega
    rw [he]
    refine awp_skip ?_
    refine awp_seq ?_
    refine awp_seq ?_
    refine awp_region ?_
    refine al_pure rfl rfl rfl (pure_assign rfl (fun _ => rfl)) ?_
    refine al_nil ?_
    refine awp_sub (s := { t := [(0, _, _), (3, _, _)], bx := [], ow := [] }) (sub_mk (⟨⟨_, rfl, rfl⟩, ⟨⟨_, rfl, rfl⟩, trivial⟩⟩) trivial trivial) ?_
    refine awp_block ?_
    refine awp_for (ι := Nat) { t := [(0, _, _)], bx := [], ow := [] } (fun k => [(3, true, xi (k : Int))]) (fun k => []) (fun k => k ≤ t.length ∧ (t.drop k).all fewF = t.all fewF) (fun k => t.length - k) (0) (by simp) (sub_mk (⟨⟨_, rfl, rfl⟩, ⟨⟨_, rfl, rfl⟩, trivial⟩⟩) trivial trivial) ?_
    intro k hok
    dsimp only [List.cons_append, List.nil_append]
    obtain ⟨hk, hi⟩ := hok
    refine awp_seq ?_
    refine awp_seq ?_
    refine awp_region ?_
    refine al_pure rfl rfl rfl (pure_move rfl (fun _ => rfl)) ?_
    refine al_pure rfl rfl rfl (pure_move rfl (fun _ => rfl)) ?_
    refine al_lenSl rfl rfl rfl rfl rfl (fun _ => rfl) rfl rfl ?_ (fun hh => by simp at hh); intro hlen
    refine al_pure rfl rfl rfl (pure_cmp rfl rfl (fun _ => rfl) (fun _ => rfl) rfl) ?_
    refine al_nil ?_
    refine awp_cond rfl (fun hc2 => ?_) (fun hc2 => ?_)
    · try simp only [n1, n2, n3, n4, n5, n6, n7, n8, n9, n10, n11, n12, n13, n14, n15, n16, Fm.rows_len, Fd.rows_len] at hc2
      rw [drop_getD (by omega), List.all_cons] at hi
      have hrf := Fd.rows_len (t.getD k default).fields
      refine awp_skip ?_
      refine awp_seq ?_
      refine awp_block ?_
      refine awp_seq ?_
      refine awp_seq ?_
      refine awp_region ?_
      refine al_pure rfl rfl rfl (pure_move rfl (fun _ => rfl)) ?_
      refine al_pure rfl rfl rfl (pure_move rfl (fun _ => rfl)) ?_
      refine al_pure rfl rfl rfl (pure_indexAddr rfl rfl (fun _ => rfl) (fun _ => rfl) rfl rfl rfl (fun hh => Fm.rows_at (by omega))) ?_
      refine al_pure rfl rfl rfl (pure_fieldRo rfl (fun _ => rfl) rfl rfl) ?_
      refine al_pure rfl rfl rfl (pure_loadRo rfl (fun _ => rfl) rfl rfl rfl) ?_
      refine al_lenS rfl rfl rfl rfl rfl (fun _ => rfl) (Try.underlying9) ?_ (fun hh => by simp at hh); intro hlen
      refine al_pure rfl rfl rfl (pure_cmp rfl rfl (fun _ => rfl) (fun _ => rfl) rfl) ?_
      refine al_pure rfl rfl rfl (pure_move rfl (fun _ => rfl)) ?_
      refine al_sub (s := { t := [(0, _, _), (3, _, _), (21, _, _)], bx := [], ow := [] }) (sub_mk (⟨⟨_, rfl, rfl⟩, ⟨⟨_, rfl, rfl⟩, ⟨⟨_, rfl, rfl⟩, trivial⟩⟩⟩) trivial trivial) ?_
      refine al_pure rfl rfl rfl (pure_move rfl (fun _ => rfl)) ?_
      refine al_pure rfl rfl rfl (pure_move rfl (fun _ => rfl)) ?_
      refine al_pure rfl rfl rfl (pure_indexAddr rfl rfl (fun hh => hh) (fun hh => hh) rfl rfl rfl (fun hh => Fm.rows_at (by omega))) ?_
      refine al_pure rfl rfl rfl (pure_fieldRo rfl (fun hh => hh) rfl rfl) ?_
      refine al_pure rfl rfl rfl (pure_loadRo rfl (fun hh => hh) rfl rfl rfl) ?_
      refine al_pure rfl rfl rfl (pure_lenSl rfl (fun hh => hh) rfl rfl) ?_
      refine al_pure rfl rfl rfl (pure_cmp rfl rfl (fun hh => hh) (fun _ => rfl) rfl) ?_
      refine al_pure rfl rfl rfl (pure_or rfl rfl (fun _ => rfl) (fun _ hi => gP rfl hi)) ?_
      refine al_nil ?_
      refine awp_sub (s := { t := [(0, _, _), (3, _, _), (29, _, _)], bx := [], ow := [] }) (sub_mk (⟨⟨_, rfl, rfl⟩, ⟨⟨_, rfl, rfl⟩, ⟨⟨_, rfl, rfl⟩, trivial⟩⟩⟩) trivial trivial) ?_
      refine awp_cond rfl (fun hc3 => ?_) (fun hc3 => ?_)
      · try simp only [n1, n2, n3, n4, n5, n6, n7, n8, n9, n10, n11, n12, n13, n14, n15, n16, Fm.rows_len, Fd.rows_len] at hc3
        have : fewF (t.getD k default) = false := by simp only [fewF, Bool.and_eq_false_iff, decide_eq_false_iff_not]; omega
        refine awp_seq ?_
        refine awp_region ?_
        refine al_pure rfl rfl rfl (pure_assign rfl (fun _ => rfl)) ?_
        refine al_nil ?_
        refine awp_ret ?_
        repeat (first | refine thenS_ret ?_ | refine blockS_ret ?_)
        refine ret_ok rfl ?_ trivial
        exact xb_eq (by rw [← hi, this]; rfl)
      · try simp only [n1, n2, n3, n4, n5, n6, n7, n8, n9, n10, n11, n12, n13, n14, n15, n16, Fm.rows_len, Fd.rows_len] at hc3
        have hf : fewF (t.getD k default) = (t.getD k default).fields.all fun x => decide (x.bytes.length ≤ 40) := by
          unfold fewF
          rw [decide_eq_true (by omega), decide_eq_true (by omega)]; rfl
        refine awp_skip ?_
        refine awp_seq ?_
        refine awp_region ?_
        refine al_pure rfl rfl rfl (pure_assign rfl (fun _ => rfl)) ?_
        refine al_nil ?_
        refine awp_block ?_
        refine awp_for (ι := Nat) { t := [(0, _, _), (3, _, _)], bx := [], ow := [] } (fun j => [(4, true, xi (j : Int))]) (fun j => []) (fun j => j ≤ (t.getD k default).fields.length ∧ ((t.getD k default).fields.drop j).all (fun x => decide (x.bytes.length ≤ 40)) = fewF (t.getD k default)) (fun j => (t.getD k default).fields.length - j) (0) (⟨by simp, by rw [hf]; rfl⟩) (sub_mk (⟨⟨_, rfl, rfl⟩, ⟨⟨_, rfl, rfl⟩, ⟨⟨_, rfl, rfl⟩, trivial⟩⟩⟩) trivial trivial) ?_
        intro j hok2
        dsimp only [List.cons_append, List.nil_append]
        obtain ⟨hj, hi2⟩ := hok2
        refine awp_seq ?_
        refine awp_seq ?_
        refine awp_region ?_
        refine al_pure rfl rfl rfl (pure_move rfl (fun _ => rfl)) ?_
        refine al_pure rfl rfl rfl (pure_move rfl (fun _ => rfl)) ?_
        refine al_pure rfl rfl rfl (pure_move rfl (fun _ => rfl)) ?_
        refine al_pure rfl rfl rfl (pure_indexAddr rfl rfl (fun _ => rfl) (fun _ => rfl) rfl rfl rfl (fun hh => Fm.rows_at (by omega))) ?_
        refine al_pure rfl rfl rfl (pure_fieldRo rfl (fun _ => rfl) rfl rfl) ?_
        refine al_pure rfl rfl rfl (pure_loadRo rfl (fun _ => rfl) rfl rfl rfl) ?_
        refine al_lenSl rfl rfl rfl rfl rfl (fun _ => rfl) rfl rfl ?_ (fun hh => by simp at hh); intro hlen
        refine al_pure rfl rfl rfl (pure_cmp rfl rfl (fun _ => rfl) (fun _ => rfl) rfl) ?_
        refine al_nil ?_
        refine awp_sub (s := { t := [(0, _, _), (3, _, _), (4, _, _), (37, _, _)], bx := [], ow := [] }) (sub_mk (⟨⟨_, rfl, rfl⟩, ⟨⟨_, rfl, rfl⟩, ⟨⟨_, rfl, rfl⟩, ⟨⟨_, rfl, rfl⟩, trivial⟩⟩⟩⟩) trivial trivial) ?_
        refine awp_cond rfl (fun hc4 => ?_) (fun hc4 => ?_)
        · try simp only [n1, n2, n3, n4, n5, n6, n7, n8, n9, n10, n11, n12, n13, n14, n15, n16, Fm.rows_len, Fd.rows_len] at hc4
          rw [drop_getD (by omega), List.all_cons] at hi2
          refine awp_skip ?_
          refine awp_seq ?_
          refine awp_block ?_
          refine awp_seq ?_
          refine awp_region ?_
          refine al_pure rfl rfl rfl (pure_move rfl (fun _ => rfl)) ?_
          refine al_pure rfl rfl rfl (pure_move rfl (fun _ => rfl)) ?_
          refine al_pure rfl rfl rfl (pure_indexAddr rfl rfl (fun _ => rfl) (fun _ => rfl) rfl rfl rfl (fun hh => Fm.rows_at (by omega))) ?_
          refine al_pure rfl rfl rfl (pure_fieldRo rfl (fun _ => rfl) rfl rfl) ?_
          refine al_pure rfl rfl rfl (pure_loadRo rfl (fun _ => rfl) rfl rfl rfl) ?_
          refine al_pure rfl rfl rfl (pure_move rfl (fun _ => rfl)) ?_
          refine al_pure rfl rfl rfl (pure_indexAddr rfl rfl (fun _ => rfl) (fun _ => rfl) rfl rfl rfl (fun hh => Fd.rows_at (by omega))) ?_
          refine al_pure rfl rfl rfl (pure_fieldRo rfl (fun _ => rfl) rfl rfl) ?_
          refine al_pure rfl rfl rfl (pure_loadRo rfl (fun _ => rfl) rfl rfl rfl) ?_
          refine al_lenS rfl rfl rfl rfl rfl (fun _ => rfl) (Try.underlying9) ?_ (fun hh => by simp at hh); intro hlen
          refine al_pure rfl rfl rfl (pure_cmp rfl rfl (fun _ => rfl) (fun _ => rfl) rfl) ?_
          refine al_nil ?_
          refine awp_sub (s := { t := [(0, _, _), (3, _, _), (4, _, _), (50, _, _)], bx := [], ow := [] }) (sub_mk (⟨⟨_, rfl, rfl⟩, ⟨⟨_, rfl, rfl⟩, ⟨⟨_, rfl, rfl⟩, ⟨⟨_, rfl, rfl⟩, trivial⟩⟩⟩⟩) trivial trivial) ?_
          refine awp_cond rfl (fun hc5 => ?_) (fun hc5 => ?_)
          · try simp only [n1, n2, n3, n4, n5, n6, n7, n8, n9, n10, n11, n12, n13, n14, n15, n16, Fm.rows_len, Fd.rows_len] at hc5
            rw [decide_eq_false (by omega)] at hi2
            refine awp_seq ?_
            refine awp_region ?_
            refine al_pure rfl rfl rfl (pure_assign rfl (fun _ => rfl)) ?_
            refine al_nil ?_
            refine awp_ret ?_
            repeat (first | refine thenS_ret ?_ | refine blockS_ret ?_)
            refine ret_ok rfl ?_ trivial
            exact xb_eq (by rw [← hi, ← hi2]; rfl)
          · try simp only [n1, n2, n3, n4, n5, n6, n7, n8, n9, n10, n11, n12, n13, n14, n15, n16, Fm.rows_len, Fd.rows_len] at hc5
            rw [decide_eq_true (by omega), Bool.true_and] at hi2
            refine awp_skip ?_
            refine awp_region ?_
            refine al_pure rfl rfl rfl (pure_move rfl (fun _ => rfl)) ?_
            refine al_pure rfl rfl rfl (pure_arith rfl rfl (fun _ => rfl) (fun _ => rfl) rfl (IntWalk.i64_in _ (by omega))) ?_
            refine al_pure rfl rfl rfl (pure_assign rfl (fun _ => rfl)) ?_
            refine al_nil ?_
            refine ⟨j + 1, ?_, ?_, sub_mk (⟨⟨_, rfl, ?_⟩, ⟨⟨_, rfl, rfl⟩, ⟨⟨_, rfl, rfl⟩, trivial⟩⟩⟩) trivial trivial⟩
            · exact ⟨by omega, hi2⟩
            · omega
            · rfl
        · try simp only [n1, n2, n3, n4, n5, n6, n7, n8, n9, n10, n11, n12, n13, n14, n15, n16, Fm.rows_len, Fd.rows_len] at hc4
          rw [List.drop_of_length_le (by omega)] at hi2
          refine awp_exit ?_
          repeat (first | refine thenS_exit ?_ | refine blockS_hit ?_ | refine blockS_miss rfl ?_)
          refine awp_region ?_
          refine al_pure rfl rfl rfl (pure_move rfl (fun _ => rfl)) ?_
          refine al_pure rfl rfl rfl (pure_arith rfl rfl (fun _ => rfl) (fun _ => rfl) rfl (IntWalk.i64_in _ (by omega))) ?_
          refine al_pure rfl rfl rfl (pure_assign rfl (fun _ => rfl)) ?_
          refine al_nil ?_
          refine ⟨k + 1, ?_, ?_, sub_mk (⟨⟨_, rfl, ?_⟩, ⟨⟨_, rfl, rfl⟩, trivial⟩⟩) trivial trivial⟩
          · refine ⟨by omega, ?_⟩
            rw [← hi2] at hi; simpa using hi
          · omega
          · rfl
    · try simp only [n1, n2, n3, n4, n5, n6, n7, n8, n9, n10, n11, n12, n13, n14, n15, n16, Fm.rows_len, Fd.rows_len] at hc2
      rw [List.drop_of_length_le (by omega)] at hi
      refine awp_exit ?_
      repeat (first | refine thenS_exit ?_ | refine blockS_hit ?_ | refine blockS_miss rfl ?_)
      refine awp_seq ?_
      refine awp_region ?_
      refine al_pure rfl rfl rfl (pure_assign rfl (fun _ => rfl)) ?_
      refine al_nil ?_
      refine awp_ret ?_
      repeat (first | refine thenS_ret ?_ | refine blockS_ret ?_)
      refine ret_ok rfl ?_ trivial
      exact xb_eq (by rw [← hi]; rfl)
end Go.Proofs.Ytgjclggjkhapfaa
