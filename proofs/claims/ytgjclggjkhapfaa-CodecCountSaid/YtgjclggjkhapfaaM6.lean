/- Our abstract program logic and contracts of this seat's functions, part 6: no statement of its own. -/
import Derived.Test.YtgjclggjkhapfaaM5
import Derived.WalkKit
import Derived.Lib.Builder
import Derived.Lib.UnsafeStr
import Derived.Laws.Externs
import Derived.KernelRfl
/- Contracts: reading strings of formats, as the reference does. -/
set_option linter.unusedVariables false
set_option linter.unusedSimpArgs false
namespace Go.Proofs.Ytgjclggjkhapfaa
open Go Go.Abs
abbrev xpl (p : Pl) : X := .v (.agg p.cells)
theorem xpl_eq {v : V} {a : Int} {ok : Bool} {p : Pl} (h1 : v = p.v) (h2 : a = p.p) (h3 : ok = p.ok) : X.v (.agg (v.cells ++ [.i .i64 a, .b ok])) = xpl p := by
  rw [xpl, Pl.cells, h1, h2, h3]
theorem rfail_spec (a : Int) (n : Nat) (h : a = n) : Ctr sys 64 [xi a] [] (xpl (failP n)) none [] := by
  subst h
  refine spec_intro Try.func64 rfl rfl rfl rfl rfl rfl ?_
  refine awp_seq ?_
  refine awp_region ?_
  refine al_do rfl (does_alloc rfl rfl rfl) ?_
  refine al_nil ?_
  refine awp_seq ?_
  refine awp_region ?_
  refine al_pure rfl rfl rfl (pure_move rfl (fun _ => rfl)) ?_
  refine al_pure rfl rfl rfl (pure_build rfl Try.underlying70 rfl (fun _ => rfl)) ?_
  refine al_do rfl (does_store rfl rfl rfl rfl rfl rfl rfl) ?_
  refine al_nil ?_
  refine awp_ret ?_
  repeat (first | refine thenS_ret ?_ | refine blockS_ret ?_)
  refine ret_ok rfl ?_ trivial
  rfl
theorem u8_lt (b : UInt8) : (b.toNat : Int) < 256 := by have := b.toNat_lt; omega
theorem rtake_spec (s : List UInt8) (a n e : Nat) (ai ni ei : Int) (ha : ai = a) (hn : ni = n) (he : ei = e) (h1 : a ≤ e) (h2 : e ≤ s.length) (hs : s.length ≤ 100000) (hn2 : n ≤ 100000) :
    Ctr sys 92 [xs s, xi ai, xi ni, xi ei] [] (xpl (takeP s a n e)) none [] := by
  subst ha; subst hn; subst he
  refine spec_intro Try.func92 rfl rfl rfl rfl rfl rfl ?_
  refine awp_seq ?_
  refine awp_region ?_
  refine al_do rfl (does_alloc rfl rfl rfl) ?_
  refine al_nil ?_
  refine awp_seq ?_
  refine awp_seq ?_
  refine awp_region ?_
  refine al_pure rfl rfl rfl (pure_move rfl (fun _ => rfl)) ?_
  refine al_pure rfl rfl rfl (pure_move rfl (fun _ => rfl)) ?_
  refine al_pure rfl rfl rfl (pure_arith rfl rfl (fun _ => rfl) (fun _ => rfl) rfl (IntWalk.i64_in _ (by omega))) ?_
  refine al_pure rfl rfl rfl (pure_move rfl (fun _ => rfl)) ?_
  refine al_pure rfl rfl rfl (pure_cmp rfl rfl (fun _ => rfl) (fun _ => rfl) rfl) ?_
  refine al_nil ?_
  refine awp_sub (s := { t := [(0, _, _), (1, _, _), (2, _, _), (3, _, _), (8, _, _), (13, _, _)], bx := [((.l 8), _)], ow := [] }) (sub_mk (⟨⟨_, rfl, rfl⟩, ⟨⟨_, rfl, rfl⟩, ⟨⟨_, rfl, rfl⟩, ⟨⟨_, rfl, rfl⟩, ⟨⟨_, rfl, rfl⟩, ⟨⟨_, rfl, rfl⟩, trivial⟩⟩⟩⟩⟩⟩) (⟨⟨_, rfl, rfl⟩, trivial⟩) trivial) ?_
  refine awp_cond rfl (fun hc => ?_) (fun hc => ?_)
  · try simp only [n1, n2, n3, n4, n5, n6, n7, n8, n9, n10, n11, n12, n13, n14, n15, n16, Fd.rows_len, Fm.rows_len, V.rows_len] at hc
    refine awp_seq ?_
    refine awp_region ?_
    refine al_pure rfl rfl rfl (pure_move rfl (fun _ => rfl)) ?_
    refine al_call rfl rfl rfl rfl rfl rfl (fun _ => rfl) (fun _ => rfl) (rfail_spec _ _ rfl) rfl ?_
    refine al_do rfl (does_store rfl rfl rfl rfl rfl rfl rfl) ?_
    refine al_nil ?_
    refine awp_ret ?_
    repeat (first | refine thenS_ret ?_ | refine blockS_ret ?_)
    refine ret_ok rfl ?_ trivial
    (rw [takeP, if_pos (by omega)]; rfl)
  · try simp only [n1, n2, n3, n4, n5, n6, n7, n8, n9, n10, n11, n12, n13, n14, n15, n16, Fd.rows_len, Fm.rows_len, V.rows_len] at hc
    refine awp_skip ?_
    refine awp_seq ?_
    refine awp_region ?_
    refine al_pure rfl rfl rfl (pure_move rfl (fun _ => rfl)) ?_
    refine al_pure rfl rfl rfl (pure_move rfl (fun _ => rfl)) ?_
    refine al_pure rfl rfl rfl (pure_move rfl (fun _ => rfl)) ?_
    refine al_pure rfl rfl rfl (pure_move rfl (fun _ => rfl)) ?_
    refine al_pure rfl rfl rfl (pure_arith rfl rfl (fun _ => rfl) (fun _ => rfl) rfl (IntWalk.i64_in _ (by omega))) ?_
    refine al_pure rfl rfl rfl (pure_sliceS (l := a) (h' := (a + n)) rfl (fun _ => rfl) Try.underlying9 (fun _ => ⟨_, _, _, rfl, (fun _ => rfl), by first | omega | (simp at hh; omega)⟩) (fun _ => ⟨_, _, _, rfl, (fun _ => rfl), by first | omega | (simp at hh; omega)⟩) (fun hh => by first | omega | (simp at hh; omega)) (fun hh => by first | omega | (simp at hh; omega))) ?_
    refine al_pure rfl rfl rfl (pure_build rfl Try.underlying25 rfl (fun _ => rfl)) ?_
    refine al_pure rfl rfl rfl (pure_move rfl (fun _ => rfl)) ?_
    refine al_pure rfl rfl rfl (pure_move rfl (fun _ => rfl)) ?_
    refine al_pure rfl rfl rfl (pure_arith rfl rfl (fun _ => rfl) (fun _ => rfl) rfl (IntWalk.i64_in _ (by omega))) ?_
    refine al_pure rfl rfl rfl (pure_build rfl Try.underlying70 rfl (fun _ => rfl)) ?_
    refine al_do rfl (does_store rfl rfl rfl rfl rfl rfl rfl) ?_
    refine al_nil ?_
    refine awp_ret ?_
    repeat (first | refine thenS_ret ?_ | refine blockS_ret ?_)
    refine ret_ok rfl ?_ trivial
    (rw [takeP, if_neg (by omega)]; rfl)
theorem rtag_spec (s w : List UInt8) (a e : Nat) (h1 : a ≤ e) (h2 : e ≤ s.length) (hs : s.length ≤ 100000) (hw : w.length ≤ 100000) :
    Ctr sys 91 [xs s, xi (a : Int), xi (e : Int), xs w] [] (xpl (tagP s e w a)) none [] := by
  refine spec_intro Try.func91 rfl rfl rfl rfl rfl rfl ?_
  refine awp_seq ?_
  refine awp_region ?_
  refine al_do rfl (does_alloc rfl rfl rfl) ?_
  refine al_nil ?_
  refine awp_seq ?_
  refine awp_seq ?_
  refine awp_region ?_
  refine al_pure rfl rfl rfl (pure_assign rfl (fun _ => rfl)) ?_
  refine al_nil ?_
  refine awp_block ?_
  refine awp_for (ι := Nat) { t := [(0, _, _), (1, _, _), (2, _, _), (3, _, _), (8, _, _)], bx := [((.l 8), _)], ow := [] } (fun k => [(9, true, xi (k : Int))]) (fun k => []) (fun k => k ≤ w.length ∧ a + k ≤ e ∧ tagP s e (w.drop k) (a + k) = tagP s e w a) (fun k => w.length - k) (0) (⟨by omega, by omega, rfl⟩) (sub_mk (⟨⟨_, rfl, rfl⟩, ⟨⟨_, rfl, rfl⟩, ⟨⟨_, rfl, rfl⟩, ⟨⟨_, rfl, rfl⟩, ⟨⟨_, rfl, rfl⟩, ⟨⟨_, rfl, rfl⟩, trivial⟩⟩⟩⟩⟩⟩) (⟨⟨_, rfl, rfl⟩, trivial⟩) trivial) ?_
  intro k hok
  dsimp only [List.cons_append, List.nil_append]
  obtain ⟨hk, hk2, hi⟩ := hok
  refine awp_seq ?_
  refine awp_seq ?_
  refine awp_region ?_
  refine al_pure rfl rfl rfl (pure_move rfl (fun _ => rfl)) ?_
  refine al_pure rfl rfl rfl (pure_move rfl (fun _ => rfl)) ?_
  refine al_lenS rfl rfl rfl rfl rfl (fun _ => rfl) (Try.underlying9) ?_ (fun hh => by simp at hh); intro hlen
  refine al_pure rfl rfl rfl (pure_cmp rfl rfl (fun _ => rfl) (fun _ => rfl) rfl) ?_
  refine al_nil ?_
  refine awp_cond rfl (fun hc => ?_) (fun hc => ?_)
  · try simp only [n1, n2, n3, n4, n5, n6, n7, n8, n9, n10, n11, n12, n13, n14, n15, n16, Fd.rows_len, Fm.rows_len, V.rows_len] at hc
    rw [drop_get0 (by omega), tagP] at hi
    refine awp_skip ?_
    refine awp_seq ?_
    refine awp_block ?_
    refine awp_seq ?_
    refine awp_drawn' (by kernel_rfl) ?_
    refine dr_pure rfl rfl rfl rfl (pure_move rfl (fun _ => rfl)) ?_
    refine dr_pure rfl rfl rfl rfl (pure_move rfl (fun _ => rfl)) ?_
    refine dr_pure rfl rfl rfl rfl (pure_arith rfl rfl (fun _ => rfl) (fun _ => rfl) rfl (IntWalk.i64_in _ (by omega))) ?_
    refine dr_pure rfl rfl rfl rfl (pure_move rfl (fun _ => rfl)) ?_
    refine dr_pure rfl rfl rfl rfl (pure_cmp rfl rfl (fun _ => rfl) (fun _ => rfl) rfl) ?_
    refine dr_pure rfl rfl rfl rfl (pure_move rfl (fun _ => rfl)) ?_
    refine dr_pure rfl rfl rfl rfl (pure_move rfl (fun _ => rfl)) ?_
    refine dr_pure rfl rfl rfl rfl (pure_move rfl (fun _ => rfl)) ?_
    refine dr_pure rfl rfl rfl rfl (pure_move rfl (fun _ => rfl)) ?_
    refine dr_pure rfl rfl rfl rfl (pure_arith rfl rfl (fun hh => hh) (fun hh => hh) rfl (IntWalk.i64_in _ (by omega))) ?_
    refine dr_pure rfl rfl rfl rfl (pure_indexSg (j := (a + k)) rfl rfl (fun hh => hh) (fun hh => hh) Try.underlying9 (by first | omega | (simp at hh; omega)) (fun hh => by first | omega | (simp at hh; omega))) ?_
    refine dr_pure rfl rfl rfl rfl (pure_move rfl (fun _ => rfl)) ?_
    refine dr_pure rfl rfl rfl rfl (pure_move rfl (fun _ => rfl)) ?_
    refine dr_pure rfl rfl rfl rfl (pure_indexSg (j := k) rfl rfl (fun hh => hh) (fun hh => hh) Try.underlying9 (by first | omega | (simp at hh; omega)) (fun hh => by first | omega | (simp at hh; omega))) ?_
    refine dr_pure rfl rfl rfl rfl (pure_cmp rfl rfl (fun hh => hh) (fun hh => hh) rfl) ?_
    refine dr_pure rfl rfl rfl rfl (pure_or rfl rfl (fun _ => rfl) (fun _ hi => gP rfl hi)) ?_
    refine dr_nil (by kernel_rfl) ?_
    refine awp_sub (s := { t := [(0, _, _), (1, _, _), (2, _, _), (3, _, _), (8, _, _), (9, _, _), (31, _, _)], bx := [((.l 8), _)], ow := [] }) (sub_mk (⟨⟨_, rfl, rfl⟩, ⟨⟨_, rfl, rfl⟩, ⟨⟨_, rfl, rfl⟩, ⟨⟨_, rfl, rfl⟩, ⟨⟨_, rfl, rfl⟩, ⟨⟨_, rfl, rfl⟩, ⟨⟨_, rfl, rfl⟩, trivial⟩⟩⟩⟩⟩⟩⟩) (⟨⟨_, rfl, rfl⟩, trivial⟩) trivial) ?_
    refine awp_cond rfl (fun hc2 => ?_) (fun hc2 => ?_)
    · try simp only [n1, n2, n3, n4, n5, n6, n7, n8, n9, n10, n11, n12, n13, n14, n15, n16, Fd.rows_len, Fm.rows_len, V.rows_len] at hc2
      have hq : e ≤ a + k ∨ s.getD (a + k) 0 ≠ w.getD k 0 := by
        rcases hc2 with h | h
        · left; omega
        · right; intro hq; rw [hq] at h; exact h rfl
      rw [if_pos hq] at hi
      refine awp_seq ?_
      refine awp_region ?_
      refine al_pure rfl rfl rfl (pure_move rfl (fun _ => rfl)) ?_
      refine al_pure rfl rfl rfl (pure_move rfl (fun _ => rfl)) ?_
      refine al_pure rfl rfl rfl (pure_arith rfl rfl (fun _ => rfl) (fun _ => rfl) rfl (IntWalk.i64_in _ (by omega))) ?_
      refine al_call rfl rfl rfl rfl rfl rfl (fun _ => rfl) (fun _ => rfl) (rfail_spec _ (a + k) (by omega)) rfl ?_
      refine al_do rfl (does_store rfl rfl rfl rfl rfl rfl rfl) ?_
      refine al_nil ?_
      refine awp_ret ?_
      repeat (first | refine thenS_ret ?_ | refine blockS_ret ?_)
      refine ret_ok rfl ?_ trivial
      (rw [← hi]; rfl)
    · try simp only [n1, n2, n3, n4, n5, n6, n7, n8, n9, n10, n11, n12, n13, n14, n15, n16, Fd.rows_len, Fm.rows_len, V.rows_len] at hc2
      have hq : s.getD (a + k) 0 = w.getD k 0 := UInt8.toNat_inj.1 (by omega)
      rw [if_neg (by intro h; rcases h with h | h; omega; exact h hq)] at hi
      refine awp_skip ?_
      refine awp_region ?_
      refine al_pure rfl rfl rfl (pure_move rfl (fun _ => rfl)) ?_
      refine al_pure rfl rfl rfl (pure_arith rfl rfl (fun _ => rfl) (fun _ => rfl) rfl (IntWalk.i64_in _ (by omega))) ?_
      refine al_pure rfl rfl rfl (pure_assign rfl (fun _ => rfl)) ?_
      refine al_nil ?_
      refine ⟨k + 1, ?_, ?_, sub_mk (⟨⟨_, rfl, ?_⟩, ⟨⟨_, rfl, rfl⟩, ⟨⟨_, rfl, rfl⟩, ⟨⟨_, rfl, rfl⟩, ⟨⟨_, rfl, rfl⟩, ⟨⟨_, rfl, rfl⟩, trivial⟩⟩⟩⟩⟩⟩) (⟨⟨_, rfl, rfl⟩, trivial⟩) trivial⟩
      all_goals (first | rfl | omega | exact ⟨by omega, by omega, hi⟩)
  · try simp only [n1, n2, n3, n4, n5, n6, n7, n8, n9, n10, n11, n12, n13, n14, n15, n16, Fd.rows_len, Fm.rows_len, V.rows_len] at hc
    rw [List.drop_of_length_le (by omega), tagP] at hi
    refine awp_exit ?_
    repeat (first | refine thenS_exit ?_ | refine blockS_hit ?_ | refine blockS_miss rfl ?_)
    refine awp_seq ?_
    refine awp_region ?_
    refine al_pure rfl rfl rfl (pure_build rfl Try.underlying25 rfl (fun _ => rfl)) ?_
    refine al_pure rfl rfl rfl (pure_move rfl (fun _ => rfl)) ?_
    refine al_pure rfl rfl rfl (pure_move rfl (fun _ => rfl)) ?_
    refine al_lenS rfl rfl rfl rfl rfl (fun _ => rfl) (Try.underlying9) ?_ (fun hh => by simp at hh); intro hlen
    refine al_pure rfl rfl rfl (pure_arith rfl rfl (fun _ => rfl) (fun _ => rfl) rfl (IntWalk.i64_in _ (by omega))) ?_
    refine al_pure rfl rfl rfl (pure_build rfl Try.underlying70 rfl (fun _ => rfl)) ?_
    refine al_do rfl (does_store rfl rfl rfl rfl rfl rfl rfl) ?_
    refine al_nil ?_
    refine awp_ret ?_
    repeat (first | refine thenS_ret ?_ | refine blockS_ret ?_)
    refine ret_ok rfl ?_ trivial
    (rw [← hi]; exact xpl_eq (v := v0) (ok := true) rfl (by dsimp only; omega) rfl)
theorem rnest_gen (t : List Fm) (i : Int) (s : List UInt8) (a e : Nat) (rec : Int → Nat → Nat → Pl) (h1 : a ≤ e) (h2 : e ≤ s.length) (hs : s.length ≤ 100000)
    (hle : ∀ b c, b ≤ c → b ≤ (rec i b c).p ∧ (rec i b c).p ≤ c)
    (hrec : ∀ b c, b ≤ c → c ≤ s.length → ∀ bi ci : Int, bi = b → ci = c → Ctr sys 42 [xtab t, xi i, xs s, xi bi, xi ci, xb false] [] (xpl (rec i b c)) none []) :
    Ctr sys 93 [xtab t, xi i, xs s, xi (a : Int), xi (e : Int)] [] (xpl (nestP false rec t i s a e)) none [] := by
  have hu := u8_lt (s.getD a 0)
  have hn := hle (a + 1) (a + 1 + (s.getD a 0).toNat) (by omega)
  refine spec_intro Try.func93 rfl rfl rfl rfl rfl rfl ?_
  refine awp_seq ?_
  refine awp_region ?_
  refine al_do rfl (does_alloc rfl rfl rfl) ?_
  refine al_nil ?_
  refine awp_seq ?_
  refine awp_seq ?_
  refine awp_region ?_
  refine al_pure rfl rfl rfl (pure_move rfl (fun _ => rfl)) ?_
  refine al_pure rfl rfl rfl (pure_move rfl (fun _ => rfl)) ?_
  refine al_pure rfl rfl rfl (pure_cmp rfl rfl (fun _ => rfl) (fun _ => rfl) rfl) ?_
  refine al_nil ?_
  refine awp_cond rfl (fun hc => ?_) (fun hc => ?_)
  · try simp only [n1, n2, n3, n4, n5, n6, n7, n8, n9, n10, n11, n12, n13, n14, n15, n16, Fd.rows_len, Fm.rows_len, V.rows_len] at hc
    refine awp_seq ?_
    refine awp_region ?_
    refine al_pure rfl rfl rfl (pure_move rfl (fun _ => rfl)) ?_
    refine al_call rfl rfl rfl rfl rfl rfl (fun _ => rfl) (fun _ => rfl) (rfail_spec _ _ rfl) rfl ?_
    refine al_do rfl (does_store rfl rfl rfl rfl rfl rfl rfl) ?_
    refine al_nil ?_
    refine awp_ret ?_
    repeat (first | refine thenS_ret ?_ | refine blockS_ret ?_)
    refine ret_ok rfl ?_ trivial
    (rw [nestP, if_pos (by omega)]; rfl)
  · try simp only [n1, n2, n3, n4, n5, n6, n7, n8, n9, n10, n11, n12, n13, n14, n15, n16, Fd.rows_len, Fm.rows_len, V.rows_len] at hc
    rw [nestP, if_neg (by omega)]
    refine awp_skip ?_
    refine awp_seq ?_
    refine awp_region ?_
    refine al_pure rfl rfl rfl (pure_move rfl (fun _ => rfl)) ?_
    refine al_pure rfl rfl rfl (pure_move rfl (fun _ => rfl)) ?_
    refine al_pure rfl rfl rfl (pure_indexSg (j := a) rfl rfl (fun _ => rfl) (fun _ => rfl) Try.underlying9 (by first | omega | (simp at hh; omega)) (fun hh => by first | omega | (simp at hh; omega))) ?_
    refine al_pure rfl rfl rfl (pure_convInt rfl (fun _ => rfl) ⟨_, Try.underlying5⟩ (Try.underlying3) (IntWalk.i64_in _ (by omega))) ?_
    refine al_pure rfl rfl rfl (pure_assign rfl (fun _ => rfl)) ?_
    refine al_nil ?_
    refine awp_sub (s := { t := [(0, _, _), (1, _, _), (2, _, _), (3, _, _), (4, _, _), (10, _, _), (11, _, _)], bx := [((.l 10), _)], ow := [] }) (sub_mk (⟨⟨_, rfl, rfl⟩, ⟨⟨_, rfl, rfl⟩, ⟨⟨_, rfl, rfl⟩, ⟨⟨_, rfl, rfl⟩, ⟨⟨_, rfl, rfl⟩, ⟨⟨_, rfl, rfl⟩, ⟨⟨_, rfl, rfl⟩, trivial⟩⟩⟩⟩⟩⟩⟩) (⟨⟨_, rfl, rfl⟩, trivial⟩) trivial) ?_
    refine awp_seq ?_
    refine awp_region ?_
    refine al_pure rfl rfl rfl (pure_move rfl (fun _ => rfl)) ?_
    refine al_pure rfl rfl rfl (pure_move rfl (fun _ => rfl)) ?_
    refine al_call rfl rfl rfl rfl rfl rfl (fun _ => rfl) (fun _ => rfl) (rBounds_spec _ _) rfl ?_
    refine al_pure rfl rfl rfl (pure_move rfl (fun _ => rfl)) ?_
    refine al_pure rfl rfl rfl (pure_extract rfl (fun _ => rfl) rfl) ?_
    refine al_pure rfl rfl rfl (pure_extract rfl (fun _ => rfl) rfl) ?_
    refine al_pure rfl rfl rfl (pure_extract rfl (fun _ => rfl) rfl) ?_
    refine al_pure rfl rfl rfl (pure_assign rfl (fun _ => rfl)) ?_
    refine al_pure rfl rfl rfl (pure_assign rfl (fun _ => rfl)) ?_
    refine al_pure rfl rfl rfl (pure_assign rfl (fun _ => rfl)) ?_
    refine al_nil ?_
    refine awp_sub (s := { t := [(0, _, _), (1, _, _), (2, _, _), (3, _, _), (4, _, _), (10, _, _), (11, _, _), (12, _, _), (13, _, _)], bx := [((.l 10), _)], ow := [] }) (sub_mk (⟨⟨_, rfl, rfl⟩, ⟨⟨_, rfl, rfl⟩, ⟨⟨_, rfl, rfl⟩, ⟨⟨_, rfl, rfl⟩, ⟨⟨_, rfl, rfl⟩, ⟨⟨_, rfl, rfl⟩, ⟨⟨_, rfl, rfl⟩, ⟨⟨_, rfl, rfl⟩, ⟨⟨_, rfl, rfl⟩, trivial⟩⟩⟩⟩⟩⟩⟩⟩⟩) (⟨⟨_, rfl, rfl⟩, trivial⟩) trivial) ?_
    refine awp_seq ?_
    refine awp_seq ?_
    refine awp_region ?_
    refine al_pure rfl rfl rfl (pure_move rfl (fun _ => rfl)) ?_
    refine al_pure rfl rfl rfl (pure_move rfl (fun _ => rfl)) ?_
    refine al_pure rfl rfl rfl (pure_cmp rfl rfl (fun _ => rfl) (fun _ => rfl) rfl) ?_
    refine al_pure rfl rfl rfl (pure_move rfl (fun _ => rfl)) ?_
    refine al_pure rfl rfl rfl (pure_move rfl (fun _ => rfl)) ?_
    refine al_pure rfl rfl rfl (pure_move rfl (fun _ => rfl)) ?_
    refine al_pure rfl rfl rfl (pure_cmp rfl rfl (fun hh => hh) (fun hh => hh) rfl) ?_
    refine al_pure rfl rfl rfl (pure_or rfl rfl (fun _ => rfl) (fun _ hi => gP rfl hi)) ?_
    refine al_nil ?_
    refine awp_sub (s := { t := [(0, _, _), (1, _, _), (2, _, _), (3, _, _), (4, _, _), (10, _, _), (11, _, _), (39, _, _)], bx := [((.l 10), _)], ow := [] }) (sub_mk (⟨⟨_, rfl, rfl⟩, ⟨⟨_, rfl, rfl⟩, ⟨⟨_, rfl, rfl⟩, ⟨⟨_, rfl, rfl⟩, ⟨⟨_, rfl, rfl⟩, ⟨⟨_, rfl, rfl⟩, ⟨⟨_, rfl, rfl⟩, ⟨⟨_, rfl, rfl⟩, trivial⟩⟩⟩⟩⟩⟩⟩⟩) (⟨⟨_, rfl, rfl⟩, trivial⟩) trivial) ?_
    refine awp_cond rfl (fun hc2 => ?_) (fun hc2 => ?_)
    · try simp only [n1, n2, n3, n4, n5, n6, n7, n8, n9, n10, n11, n12, n13, n14, n15, n16, Fd.rows_len, Fm.rows_len, V.rows_len] at hc2
      refine awp_seq ?_
      refine awp_region ?_
      refine al_pure rfl rfl rfl (pure_move rfl (fun _ => rfl)) ?_
      refine al_call rfl rfl rfl rfl rfl rfl (fun _ => rfl) (fun _ => rfl) (rfail_spec _ _ rfl) rfl ?_
      refine al_do rfl (does_store rfl rfl rfl rfl rfl rfl rfl) ?_
      refine al_nil ?_
      refine awp_ret ?_
      repeat (first | refine thenS_ret ?_ | refine blockS_ret ?_)
      refine ret_ok rfl ?_ trivial
      (rw [if_pos (by omega)]; rfl)
    · try simp only [n1, n2, n3, n4, n5, n6, n7, n8, n9, n10, n11, n12, n13, n14, n15, n16, Fd.rows_len, Fm.rows_len, V.rows_len] at hc2
      rw [if_neg (by omega)]
      refine awp_skip ?_
      refine awp_seq ?_
      refine awp_seq ?_
      refine awp_region ?_
      refine al_pure rfl rfl rfl (pure_move rfl (fun _ => rfl)) ?_
      refine al_pure rfl rfl rfl (pure_arith rfl rfl (fun _ => rfl) (fun _ => rfl) rfl (IntWalk.i64_in _ (by omega))) ?_
      refine al_pure rfl rfl rfl (pure_move rfl (fun _ => rfl)) ?_
      refine al_pure rfl rfl rfl (pure_arith rfl rfl (fun _ => rfl) (fun _ => rfl) rfl (IntWalk.i64_in _ (by omega))) ?_
      refine al_pure rfl rfl rfl (pure_move rfl (fun _ => rfl)) ?_
      refine al_pure rfl rfl rfl (pure_cmp rfl rfl (fun _ => rfl) (fun _ => rfl) rfl) ?_
      refine al_nil ?_
      refine awp_sub (s := { t := [(0, _, _), (1, _, _), (2, _, _), (3, _, _), (4, _, _), (10, _, _), (11, _, _), (47, _, _)], bx := [((.l 10), _)], ow := [] }) (sub_mk (⟨⟨_, rfl, rfl⟩, ⟨⟨_, rfl, rfl⟩, ⟨⟨_, rfl, rfl⟩, ⟨⟨_, rfl, rfl⟩, ⟨⟨_, rfl, rfl⟩, ⟨⟨_, rfl, rfl⟩, ⟨⟨_, rfl, rfl⟩, ⟨⟨_, rfl, rfl⟩, trivial⟩⟩⟩⟩⟩⟩⟩⟩) (⟨⟨_, rfl, rfl⟩, trivial⟩) trivial) ?_
      refine awp_cond rfl (fun hc3 => ?_) (fun hc3 => ?_)
      · try simp only [n1, n2, n3, n4, n5, n6, n7, n8, n9, n10, n11, n12, n13, n14, n15, n16, Fd.rows_len, Fm.rows_len, V.rows_len] at hc3
        refine awp_seq ?_
        refine awp_region ?_
        refine al_pure rfl rfl rfl (pure_move rfl (fun _ => rfl)) ?_
        refine al_call rfl rfl rfl rfl rfl rfl (fun _ => rfl) (fun _ => rfl) (rfail_spec _ _ rfl) rfl ?_
        refine al_do rfl (does_store rfl rfl rfl rfl rfl rfl rfl) ?_
        refine al_nil ?_
        refine awp_ret ?_
        repeat (first | refine thenS_ret ?_ | refine blockS_ret ?_)
        refine ret_ok rfl ?_ trivial
        (rw [if_pos (by omega)]; rfl)
      · try simp only [n1, n2, n3, n4, n5, n6, n7, n8, n9, n10, n11, n12, n13, n14, n15, n16, Fd.rows_len, Fm.rows_len, V.rows_len] at hc3
        rw [if_neg (by omega)]
        refine awp_skip ?_
        refine awp_seq ?_
        refine awp_region ?_
        refine al_pure rfl rfl rfl (pure_move rfl (fun _ => rfl)) ?_
        refine al_pure rfl rfl rfl (pure_move rfl (fun _ => rfl)) ?_
        refine al_pure rfl rfl rfl (pure_move rfl (fun _ => rfl)) ?_
        refine al_pure rfl rfl rfl (pure_move rfl (fun _ => rfl)) ?_
        refine al_pure rfl rfl rfl (pure_arith rfl rfl (fun _ => rfl) (fun _ => rfl) rfl (IntWalk.i64_in _ (by omega))) ?_
        refine al_pure rfl rfl rfl (pure_move rfl (fun _ => rfl)) ?_
        refine al_pure rfl rfl rfl (pure_arith rfl rfl (fun _ => rfl) (fun _ => rfl) rfl (IntWalk.i64_in _ (by omega))) ?_
        refine al_pure rfl rfl rfl (pure_move rfl (fun _ => rfl)) ?_
        refine al_pure rfl rfl rfl (pure_arith rfl rfl (fun _ => rfl) (fun _ => rfl) rfl (IntWalk.i64_in _ (by omega))) ?_
        refine al_call rfl rfl rfl rfl rfl rfl (fun _ => rfl) (fun _ => rfl) (hrec (a + 1) (a + 1 + (s.getD a 0).toNat) (by omega) (by omega) _ _ (by omega) (by omega)) rfl ?_
        refine al_do rfl (does_alloc rfl rfl rfl) ?_
        refine al_do rfl (does_store rfl rfl rfl rfl rfl rfl rfl) ?_
        refine al_nil ?_
        refine awp_sub (s := { t := [(3, _, _), (10, _, _), (11, _, _), (15, _, _)], bx := [((.l 10), _), ((.l 15), _)], ow := [] }) (sub_mk (⟨⟨_, rfl, rfl⟩, ⟨⟨_, rfl, rfl⟩, ⟨⟨_, rfl, rfl⟩, ⟨⟨_, rfl, rfl⟩, trivial⟩⟩⟩⟩) (⟨⟨_, rfl, rfl⟩, ⟨⟨_, rfl, rfl⟩, trivial⟩⟩) trivial) ?_
        refine awp_seq ?_
        refine awp_seq ?_
        refine awp_region ?_
        refine al_pure rfl rfl rfl (pure_fieldPtr rfl (fun _ => rfl) rfl rfl) ?_
        refine al_pure rfl rfl rfl (pure_loadBox rfl (fun _ => rfl) rfl rfl rfl rfl) ?_
        refine al_pure rfl rfl rfl (pure_move rfl (fun _ => rfl)) ?_
        refine al_pure rfl rfl rfl (pure_fieldPtr rfl (fun _ => rfl) rfl rfl) ?_
        refine al_pure rfl rfl rfl (pure_loadBox rfl (fun hh => hh) rfl rfl rfl rfl) ?_
        refine al_pure rfl rfl rfl (pure_move rfl (fun _ => rfl)) ?_
        refine al_pure rfl rfl rfl (pure_arith rfl rfl (fun hh => hh) (fun _ => rfl) rfl (IntWalk.i64_in _ (by omega))) ?_
        refine al_pure rfl rfl rfl (pure_move rfl (fun _ => rfl)) ?_
        refine al_pure rfl rfl rfl (pure_arith rfl rfl (fun hh => hh) (fun hh => hh) rfl (IntWalk.i64_in _ (by omega))) ?_
        refine al_pure rfl rfl rfl (pure_cmp rfl rfl (fun hh => hh) (fun hh => hh) rfl) ?_
        refine al_pure rfl rfl rfl (pure_and rfl rfl (fun _ => rfl) (fun _ hi => gP rfl hi)) ?_
        refine al_nil ?_
        refine awp_sub (s := { t := [(10, _, _), (15, _, _), (70, _, _)], bx := [((.l 10), _), ((.l 15), _)], ow := [] }) (sub_mk (⟨⟨_, rfl, rfl⟩, ⟨⟨_, rfl, rfl⟩, ⟨⟨_, rfl, rfl⟩, trivial⟩⟩⟩) (⟨⟨_, rfl, rfl⟩, ⟨⟨_, rfl, rfl⟩, trivial⟩⟩) trivial) ?_
        refine awp_cond rfl (fun hc4 => ?_) (fun hc4 => ?_)
        · try simp only [n1, n2, n3, n4, n5, n6, n7, n8, n9, n10, n11, n12, n13, n14, n15, n16, Fd.rows_len, Fm.rows_len, V.rows_len] at hc4
          refine awp_seq ?_
          refine awp_region ?_
          refine al_pure rfl rfl rfl (pure_fieldPtr rfl (fun _ => rfl) rfl rfl) ?_
          refine al_pure rfl rfl rfl (pure_loadBox rfl (fun _ => rfl) rfl rfl rfl rfl) ?_
          refine al_call rfl rfl rfl rfl rfl rfl (fun _ => rfl) (fun _ => rfl) (rfail_spec _ _ rfl) rfl ?_
          refine al_do rfl (does_store rfl rfl rfl rfl rfl rfl rfl) ?_
          refine al_nil ?_
          refine awp_ret ?_
          repeat (first | refine thenS_ret ?_ | refine blockS_ret ?_)
          refine ret_ok rfl ?_ trivial
          (rw [if_pos ⟨hc4.1, by omega⟩]; rfl)
        · try simp only [n1, n2, n3, n4, n5, n6, n7, n8, n9, n10, n11, n12, n13, n14, n15, n16, Fd.rows_len, Fm.rows_len, V.rows_len] at hc4
          refine awp_skip ?_
          refine awp_seq ?_
          refine awp_region ?_
          refine al_pure rfl rfl rfl (pure_loadBoxRow rfl (fun _ => rfl) rfl rfl rfl rfl rfl) ?_
          refine al_do rfl (does_store rfl rfl rfl rfl rfl rfl rfl) ?_
          refine al_nil ?_
          refine awp_ret ?_
          repeat (first | refine thenS_ret ?_ | refine blockS_ret ?_)
          refine ret_ok rfl ?_ trivial
          (rw [if_neg (by intro hq; apply hc4.elim <;> simp_all <;> omega)]; rfl)
theorem rfield_gen (t : List Fm) (f : Fd) (s : List UInt8) (a e : Nat) (ai : Int) (pre : Bool) (rec : Int → Nat → Nat → Pl) (hf : FdOk f) (ha : ai = a) (h1 : a ≤ e) (h2 : e ≤ s.length) (hs : s.length ≤ 100000)
    (hle : f.kind = 5 → ∀ b c, b ≤ c → b ≤ (rec f.n b c).p ∧ (rec f.n b c).p ≤ c)
    (hrec : f.kind = 5 → ∀ b c, b ≤ c → c ≤ s.length → ∀ bi ci : Int, bi = b → ci = c → Ctr sys 42 [xtab t, xi f.n, xs s, xi bi, xi ci, xb false] [] (xpl (rec f.n b c)) none []) :
    Ctr sys 63 [xtab t, xf f, xs s, xi ai, xi (e : Int), xb pre] [] (xpl (fldP false rec t f s a e pre)) none [] := by
  subst ha
  obtain ⟨hk, hb, hn, hl, hh, hlh, _⟩ := hf
  have hu := u8_lt (s.getD a 0)
  refine spec_intro Try.func63 rfl rfl rfl rfl rfl rfl ?_
  refine awp_seq ?_
  refine awp_region ?_
  refine al_do rfl (does_box rfl rfl rfl rfl) ?_
  refine al_do rfl (does_alloc rfl rfl rfl) ?_
  refine al_nil ?_
  refine awp_seq ?_
  refine awp_seq ?_
  refine awp_region ?_
  refine al_pure rfl rfl rfl (pure_fieldPtr rfl (fun _ => rfl) rfl rfl) ?_
  refine al_pure rfl rfl rfl (pure_loadBox rfl (fun _ => rfl) rfl rfl rfl rfl) ?_
  refine al_nil ?_
  refine awp_block ?_
  refine awp_seq ?_
  refine awp_region ?_
  refine al_pure rfl rfl rfl (pure_cmp rfl rfl (fun _ => rfl) (fun _ => rfl) rfl) ?_
  refine al_pure rfl rfl rfl (pure_assign rfl (fun _ => rfl)) ?_
  refine al_nil ?_
  refine awp_sub (s := { t := [(0, _, _), (2, _, _), (3, _, _), (4, _, _), (5, _, _), (7, _, _), (12, _, _), (16, _, _), (17, _, _)], bx := [((.l 12), _), ((.l 7), _)], ow := [] }) (sub_mk (⟨⟨_, rfl, rfl⟩, ⟨⟨_, rfl, rfl⟩, ⟨⟨_, rfl, rfl⟩, ⟨⟨_, rfl, rfl⟩, ⟨⟨_, rfl, rfl⟩, ⟨⟨_, rfl, rfl⟩, ⟨⟨_, rfl, rfl⟩, ⟨⟨_, rfl, rfl⟩, ⟨⟨_, rfl, rfl⟩, trivial⟩⟩⟩⟩⟩⟩⟩⟩⟩) (⟨⟨_, rfl, rfl⟩, ⟨⟨_, rfl, rfl⟩, trivial⟩⟩) trivial) ?_
  refine awp_cond rfl (fun hc => ?_) (fun hc => ?_)
  · try simp only [n1, n2, n3, n4, n5, n6, n7, n8, n9, n10, n11, n12, n13, n14, n15, n16, Fd.rows_len, Fm.rows_len, V.rows_len] at hc
    refine awp_seq ?_
    refine awp_region ?_
    refine al_pure rfl rfl rfl (pure_move rfl (fun _ => rfl)) ?_
    refine al_pure rfl rfl rfl (pure_move rfl (fun _ => rfl)) ?_
    refine al_pure rfl rfl rfl (pure_move rfl (fun _ => rfl)) ?_
    refine al_pure rfl rfl rfl (pure_fieldPtr rfl (fun _ => rfl) rfl rfl) ?_
    refine al_pure rfl rfl rfl (pure_loadBox rfl (fun _ => rfl) rfl rfl rfl rfl) ?_
    refine al_call rfl rfl rfl rfl rfl rfl (fun _ => rfl) (fun _ => rfl) (rtag_spec _ _ _ _ (by omega) (by omega) (by omega) (by omega)) rfl ?_
    refine al_do rfl (does_store rfl rfl rfl rfl rfl rfl rfl) ?_
    refine al_nil ?_
    refine awp_ret ?_
    repeat (first | refine thenS_ret ?_ | refine blockS_ret ?_)
    refine ret_ok rfl ?_ trivial
    (rw [fldP, if_pos hc]; rfl)
  · try simp only [n1, n2, n3, n4, n5, n6, n7, n8, n9, n10, n11, n12, n13, n14, n15, n16, Fd.rows_len, Fm.rows_len, V.rows_len] at hc
    rw [fldP, if_neg hc]
    refine awp_seq ?_
    refine awp_region ?_
    refine al_pure rfl rfl rfl (pure_cmp rfl rfl (fun _ => rfl) (fun _ => rfl) rfl) ?_
    refine al_pure rfl rfl rfl (pure_assign rfl (fun _ => rfl)) ?_
    refine al_nil ?_
    refine awp_cond rfl (fun hc2 => ?_) (fun hc2 => ?_)
    · try simp only [n1, n2, n3, n4, n5, n6, n7, n8, n9, n10, n11, n12, n13, n14, n15, n16, Fd.rows_len, Fm.rows_len, V.rows_len] at hc2
      refine awp_seq ?_
      refine awp_region ?_
      refine al_pure rfl rfl rfl (pure_move rfl (fun _ => rfl)) ?_
      refine al_pure rfl rfl rfl (pure_move rfl (fun _ => rfl)) ?_
      refine al_pure rfl rfl rfl (pure_fieldPtr rfl (fun _ => rfl) rfl rfl) ?_
      refine al_pure rfl rfl rfl (pure_loadBox rfl (fun _ => rfl) rfl rfl rfl rfl) ?_
      refine al_pure rfl rfl rfl (pure_move rfl (fun _ => rfl)) ?_
      refine al_call rfl rfl rfl rfl rfl rfl (fun _ => rfl) (fun _ => rfl) (rtake_spec _ _ f.n.toNat _ _ _ _ rfl (by omega) rfl (by omega) (by omega) (by omega) (by omega)) rfl ?_
      refine al_do rfl (does_store rfl rfl rfl rfl rfl rfl rfl) ?_
      refine al_nil ?_
      refine awp_ret ?_
      repeat (first | refine thenS_ret ?_ | refine blockS_ret ?_)
      refine ret_ok rfl ?_ trivial
      (rw [if_pos hc2]; rfl)
    · try simp only [n1, n2, n3, n4, n5, n6, n7, n8, n9, n10, n11, n12, n13, n14, n15, n16, Fd.rows_len, Fm.rows_len, V.rows_len] at hc2
      rw [if_neg hc2]
      refine awp_seq ?_
      refine awp_region ?_
      refine al_pure rfl rfl rfl (pure_cmp rfl rfl (fun _ => rfl) (fun _ => rfl) rfl) ?_
      refine al_pure rfl rfl rfl (pure_assign rfl (fun _ => rfl)) ?_
      refine al_nil ?_
      refine awp_cond rfl (fun hc3 => ?_) (fun hc3 => ?_)
      · try simp only [n1, n2, n3, n4, n5, n6, n7, n8, n9, n10, n11, n12, n13, n14, n15, n16, Fd.rows_len, Fm.rows_len, V.rows_len] at hc3
        refine awp_seq ?_
        refine awp_region ?_
        refine al_pure rfl rfl rfl (pure_move rfl (fun _ => rfl)) ?_
        refine al_pure rfl rfl rfl (pure_fieldPtr rfl (fun _ => rfl) rfl rfl) ?_
        refine al_pure rfl rfl rfl (pure_loadBox rfl (fun _ => rfl) rfl rfl rfl rfl) ?_
        refine al_pure rfl rfl rfl (pure_move rfl (fun _ => rfl)) ?_
        refine al_pure rfl rfl rfl (pure_move rfl (fun _ => rfl)) ?_
        refine al_pure rfl rfl rfl (pure_move rfl (fun _ => rfl)) ?_
        refine al_call rfl rfl rfl rfl rfl rfl (fun _ => rfl) (fun _ => rfl) (rnest_gen _ _ _ _ _ rec (by omega) (by omega) (by omega) (hle (by assumption)) (hrec (by assumption))) rfl ?_
        refine al_do rfl (does_store rfl rfl rfl rfl rfl rfl rfl) ?_
        refine al_nil ?_
        refine awp_ret ?_
        repeat (first | refine thenS_ret ?_ | refine blockS_ret ?_)
        refine ret_ok rfl ?_ trivial
        (rw [if_neg (by omega), if_neg (by omega), if_pos hc3]; rfl)
      · try simp only [n1, n2, n3, n4, n5, n6, n7, n8, n9, n10, n11, n12, n13, n14, n15, n16, Fd.rows_len, Fm.rows_len, V.rows_len] at hc3
        refine awp_seq ?_
        refine awp_region ?_
        refine al_pure rfl rfl rfl (pure_cmp rfl rfl (fun _ => rfl) (fun _ => rfl) rfl) ?_
        refine al_pure rfl rfl rfl (pure_assign rfl (fun _ => rfl)) ?_
        refine al_nil ?_
        refine awp_sub (s := { t := [(2, _, _), (3, _, _), (4, _, _), (5, _, _), (7, _, _), (12, _, _), (42, _, _)], bx := [((.l 12), _), ((.l 7), _)], ow := [] }) (sub_mk (⟨⟨_, rfl, rfl⟩, ⟨⟨_, rfl, rfl⟩, ⟨⟨_, rfl, rfl⟩, ⟨⟨_, rfl, rfl⟩, ⟨⟨_, rfl, rfl⟩, ⟨⟨_, rfl, rfl⟩, ⟨⟨_, rfl, rfl⟩, trivial⟩⟩⟩⟩⟩⟩⟩) (⟨⟨_, rfl, rfl⟩, ⟨⟨_, rfl, rfl⟩, trivial⟩⟩) trivial) ?_
        refine awp_cond rfl (fun hc4 => ?_) (fun hc4 => ?_)
        · try simp only [n1, n2, n3, n4, n5, n6, n7, n8, n9, n10, n11, n12, n13, n14, n15, n16, Fd.rows_len, Fm.rows_len, V.rows_len] at hc4
          rw [if_neg (by omega), if_neg (by omega), if_neg hc3]
          refine awp_seq ?_
          refine awp_region ?_
          refine al_pure rfl rfl rfl (pure_move rfl (fun _ => rfl)) ?_
          refine al_pure rfl rfl rfl (pure_move rfl (fun _ => rfl)) ?_
          refine al_pure rfl rfl rfl (pure_arith rfl rfl (fun _ => rfl) (fun _ => rfl) rfl (IntWalk.i64_in _ (by omega))) ?_
          refine al_pure rfl rfl rfl (pure_assign rfl (fun _ => rfl)) ?_
          refine al_nil ?_
          refine awp_seq ?_
          refine awp_seq ?_
          refine awp_region ?_
          refine al_pure rfl rfl rfl (pure_move rfl (fun _ => rfl)) ?_
          refine al_pure rfl rfl rfl (pure_fieldPtr rfl (fun _ => rfl) rfl rfl) ?_
          refine al_pure rfl rfl rfl (pure_loadBox rfl (fun _ => rfl) rfl rfl rfl rfl) ?_
          refine al_pure rfl rfl rfl (pure_cmp rfl rfl (fun _ => rfl) (fun _ => rfl) rfl) ?_
          refine al_nil ?_
          refine awp_sub (s := { t := [(2, _, _), (3, _, _), (4, _, _), (5, _, _), (7, _, _), (12, _, _), (13, _, _), (50, _, _)], bx := [((.l 12), _), ((.l 7), _)], ow := [] }) (sub_mk (⟨⟨_, rfl, rfl⟩, ⟨⟨_, rfl, rfl⟩, ⟨⟨_, rfl, rfl⟩, ⟨⟨_, rfl, rfl⟩, ⟨⟨_, rfl, rfl⟩, ⟨⟨_, rfl, rfl⟩, ⟨⟨_, rfl, rfl⟩, ⟨⟨_, rfl, rfl⟩, trivial⟩⟩⟩⟩⟩⟩⟩⟩) (⟨⟨_, rfl, rfl⟩, ⟨⟨_, rfl, rfl⟩, trivial⟩⟩) trivial) ?_
          refine awp_cond rfl (fun hc5 => ?_) (fun hc5 => ?_)
          · try simp only [n1, n2, n3, n4, n5, n6, n7, n8, n9, n10, n11, n12, n13, n14, n15, n16, Fd.rows_len, Fm.rows_len, V.rows_len] at hc5
            refine awp_seq ?_
            refine awp_region ?_
            refine al_pure rfl rfl rfl (pure_move rfl (fun _ => rfl)) ?_
            refine al_call rfl rfl rfl rfl rfl rfl (fun _ => rfl) (fun _ => rfl) (rfail_spec _ _ rfl) rfl ?_
            refine al_do rfl (does_store rfl rfl rfl rfl rfl rfl rfl) ?_
            refine al_nil ?_
            refine awp_ret ?_
            repeat (first | refine thenS_ret ?_ | refine blockS_ret ?_)
            refine ret_ok rfl ?_ trivial
            (rw [if_pos (by omega)]; rfl)
          · try simp only [n1, n2, n3, n4, n5, n6, n7, n8, n9, n10, n11, n12, n13, n14, n15, n16, Fd.rows_len, Fm.rows_len, V.rows_len] at hc5
            rw [if_neg (by omega)]
            refine awp_skip ?_
            refine awp_seq ?_
            refine awp_seq ?_
            refine awp_region ?_
            refine al_pure rfl rfl rfl (pure_move rfl (fun _ => rfl)) ?_
            refine al_pure rfl rfl rfl (pure_fieldPtr rfl (fun _ => rfl) rfl rfl) ?_
            refine al_pure rfl rfl rfl (pure_loadBox rfl (fun _ => rfl) rfl rfl rfl rfl) ?_
            refine al_pure rfl rfl rfl (pure_cmp rfl rfl (fun _ => rfl) (fun _ => rfl) rfl) ?_
            refine al_pure rfl rfl rfl (pure_move rfl (fun _ => rfl)) ?_
            refine al_pure rfl rfl rfl (pure_move rfl (fun _ => rfl)) ?_
            refine al_pure rfl rfl rfl (pure_not rfl (fun hh => hh)) ?_
            refine al_pure rfl rfl rfl (pure_and rfl rfl (fun _ => rfl) (fun _ hi => gP rfl hi)) ?_
            refine al_nil ?_
            refine awp_sub (s := { t := [(2, _, _), (3, _, _), (4, _, _), (7, _, _), (12, _, _), (13, _, _), (60, _, _)], bx := [((.l 12), _), ((.l 7), _)], ow := [] }) (sub_mk (⟨⟨_, rfl, rfl⟩, ⟨⟨_, rfl, rfl⟩, ⟨⟨_, rfl, rfl⟩, ⟨⟨_, rfl, rfl⟩, ⟨⟨_, rfl, rfl⟩, ⟨⟨_, rfl, rfl⟩, ⟨⟨_, rfl, rfl⟩, trivial⟩⟩⟩⟩⟩⟩⟩) (⟨⟨_, rfl, rfl⟩, ⟨⟨_, rfl, rfl⟩, trivial⟩⟩) trivial) ?_
            refine awp_cond rfl (fun hc6 => ?_) (fun hc6 => ?_)
            · try simp only [n1, n2, n3, n4, n5, n6, n7, n8, n9, n10, n11, n12, n13, n14, n15, n16, Fd.rows_len, Fm.rows_len, V.rows_len] at hc6
              refine awp_seq ?_
              refine awp_region ?_
              refine al_pure rfl rfl rfl (pure_move rfl (fun _ => rfl)) ?_
              refine al_pure rfl rfl rfl (pure_fieldPtr rfl (fun _ => rfl) rfl rfl) ?_
              refine al_pure rfl rfl rfl (pure_loadBox rfl (fun _ => rfl) rfl rfl rfl rfl) ?_
              refine al_pure rfl rfl rfl (pure_arith rfl rfl (fun _ => rfl) (fun _ => rfl) rfl (IntWalk.i64_in _ (by omega))) ?_
              refine al_call rfl rfl rfl rfl rfl rfl (fun _ => rfl) (fun _ => rfl) (rfail_spec _ (a + f.high.toNat) (by omega)) rfl ?_
              refine al_do rfl (does_store rfl rfl rfl rfl rfl rfl rfl) ?_
              refine al_nil ?_
              refine awp_ret ?_
              repeat (first | refine thenS_ret ?_ | refine blockS_ret ?_)
              refine ret_ok rfl ?_ trivial
              (rw [if_pos ⟨by omega, hc6.2⟩]; rfl)
            · try simp only [n1, n2, n3, n4, n5, n6, n7, n8, n9, n10, n11, n12, n13, n14, n15, n16, Fd.rows_len, Fm.rows_len, V.rows_len] at hc6
              refine awp_skip ?_
              refine awp_seq ?_
              refine awp_region ?_
              refine al_pure rfl rfl rfl (pure_move rfl (fun _ => rfl)) ?_
              refine al_pure rfl rfl rfl (pure_move rfl (fun _ => rfl)) ?_
              refine al_pure rfl rfl rfl (pure_move rfl (fun _ => rfl)) ?_
              refine al_pure rfl rfl rfl (pure_fieldPtr rfl (fun _ => rfl) rfl rfl) ?_
              refine al_pure rfl rfl rfl (pure_loadBox rfl (fun _ => rfl) rfl rfl rfl rfl) ?_
              refine al_pure rfl rfl rfl (pure_min rfl rfl (fun _ => rfl) (fun _ => rfl)) ?_
              refine al_pure rfl rfl rfl (pure_move rfl (fun _ => rfl)) ?_
              refine al_call rfl rfl rfl rfl rfl rfl (fun _ => rfl) (fun _ => rfl) (rtake_spec _ _ (min (e - a) f.high.toNat) _ _ _ _ rfl (by omega) rfl (by omega) (by omega) (by omega) (by omega)) rfl ?_
              refine al_do rfl (does_store rfl rfl rfl rfl rfl rfl rfl) ?_
              refine al_nil ?_
              refine awp_ret ?_
              repeat (first | refine thenS_ret ?_ | refine blockS_ret ?_)
              refine ret_ok rfl ?_ trivial
              (rw [if_neg (by intro hq; apply hc6.elim <;> simp_all <;> omega)]; rfl)
        · try simp only [n1, n2, n3, n4, n5, n6, n7, n8, n9, n10, n11, n12, n13, n14, n15, n16, Fd.rows_len, Fm.rows_len, V.rows_len] at hc4
          obtain h3 | h3 : f.kind = 3 ∨ f.kind = 4 := by omega
          · rw [if_pos h3]
            refine awp_skip ?_
            refine awp_seq ?_
            refine awp_seq ?_
            refine awp_region ?_
            refine al_pure rfl rfl rfl (pure_move rfl (fun _ => rfl)) ?_
            refine al_pure rfl rfl rfl (pure_move rfl (fun _ => rfl)) ?_
            refine al_pure rfl rfl rfl (pure_cmp rfl rfl (fun _ => rfl) (fun _ => rfl) rfl) ?_
            refine al_nil ?_
            refine awp_cond rfl (fun hc1 => ?_) (fun hc1 => ?_)
            · try simp only [n1, n2, n3, n4, n5, n6, n7, n8, n9, n10, n11, n12, n13, n14, n15, n16, Fd.rows_len, Fm.rows_len, V.rows_len] at hc1
              refine awp_seq ?_
              refine awp_region ?_
              refine al_pure rfl rfl rfl (pure_move rfl (fun _ => rfl)) ?_
              refine al_call rfl rfl rfl rfl rfl rfl (fun _ => rfl) (fun _ => rfl) (rfail_spec _ _ rfl) rfl ?_
              refine al_do rfl (does_store rfl rfl rfl rfl rfl rfl rfl) ?_
              refine al_nil ?_
              refine awp_ret ?_
              repeat (first | refine thenS_ret ?_ | refine blockS_ret ?_)
              refine ret_ok rfl ?_ trivial
              first | (exfalso; omega) | (rw [if_pos (by omega)]; rfl) | (rw [if_neg (by omega), if_pos (by omega)]; rfl) | (rw [if_neg (by omega), if_neg (by omega)]; rfl)
            · try simp only [n1, n2, n3, n4, n5, n6, n7, n8, n9, n10, n11, n12, n13, n14, n15, n16, Fd.rows_len, Fm.rows_len, V.rows_len] at hc1
              refine awp_skip ?_
              refine awp_seq ?_
              refine awp_region ?_
              refine al_pure rfl rfl rfl (pure_move rfl (fun _ => rfl)) ?_
              refine al_pure rfl rfl rfl (pure_move rfl (fun _ => rfl)) ?_
              refine al_pure rfl rfl rfl (pure_indexSg (j := a) rfl rfl (fun _ => rfl) (fun _ => rfl) Try.underlying9 (by first | omega | (simp at hh; omega)) (fun hh => by first | omega | (simp at hh; omega))) ?_
              refine al_pure rfl rfl rfl (pure_convInt rfl (fun _ => rfl) ⟨_, Try.underlying5⟩ (Try.underlying3) (IntWalk.i64_in _ (by omega))) ?_
              refine al_pure rfl rfl rfl (pure_assign rfl (fun _ => rfl)) ?_
              refine al_nil ?_
              refine awp_sub (s := { t := [(2, _, _), (3, _, _), (4, _, _), (7, _, _), (12, _, _), (14, _, _)], bx := [((.l 12), _), ((.l 7), _)], ow := [] }) (sub_mk (⟨⟨_, rfl, rfl⟩, ⟨⟨_, rfl, rfl⟩, ⟨⟨_, rfl, rfl⟩, ⟨⟨_, rfl, rfl⟩, ⟨⟨_, rfl, rfl⟩, ⟨⟨_, rfl, rfl⟩, trivial⟩⟩⟩⟩⟩⟩) (⟨⟨_, rfl, rfl⟩, ⟨⟨_, rfl, rfl⟩, trivial⟩⟩) trivial) ?_
              refine awp_seq ?_
              refine awp_seq ?_
              refine awp_region ?_
              refine al_pure rfl rfl rfl (pure_fieldPtr rfl (fun _ => rfl) rfl rfl) ?_
              refine al_pure rfl rfl rfl (pure_loadBox rfl (fun _ => rfl) rfl rfl rfl rfl) ?_
              refine al_pure rfl rfl rfl (pure_cmp rfl rfl (fun _ => rfl) (fun _ => rfl) rfl) ?_
              refine al_nil ?_
              refine awp_cond rfl (fun hc2 => ?_) (fun hc2 => ?_)
              · try simp only [n1, n2, n3, n4, n5, n6, n7, n8, n9, n10, n11, n12, n13, n14, n15, n16, Fd.rows_len, Fm.rows_len, V.rows_len] at hc2
                refine awp_seq ?_
                refine awp_seq ?_
                refine awp_region ?_
                refine al_pure rfl rfl rfl (pure_move rfl (fun _ => rfl)) ?_
                refine al_pure rfl rfl rfl (pure_fieldPtr rfl (fun _ => rfl) rfl rfl) ?_
                refine al_pure rfl rfl rfl (pure_loadBox rfl (fun _ => rfl) rfl rfl rfl rfl) ?_
                refine al_pure rfl rfl rfl (pure_cmp rfl rfl (fun _ => rfl) (fun _ => rfl) rfl) ?_
                refine al_pure rfl rfl rfl (pure_move rfl (fun _ => rfl)) ?_
                refine al_pure rfl rfl rfl (pure_move rfl (fun _ => rfl)) ?_
                refine al_pure rfl rfl rfl (pure_fieldPtr rfl (fun _ => rfl) rfl rfl) ?_
                refine al_pure rfl rfl rfl (pure_loadBox rfl (fun hh => hh) rfl rfl rfl rfl) ?_
                refine al_pure rfl rfl rfl (pure_cmp rfl rfl (fun hh => hh) (fun hh => hh) rfl) ?_
                refine al_sub (s := { t := [(3, _, _), (12, _, _), (14, _, _), (90, _, _), (94, _, _)], bx := [((.l 12), _)], ow := [] }) (sub_mk (⟨⟨_, rfl, rfl⟩, ⟨⟨_, rfl, rfl⟩, ⟨⟨_, rfl, rfl⟩, ⟨⟨_, rfl, rfl⟩, ⟨⟨_, rfl, rfl⟩, trivial⟩⟩⟩⟩⟩) (⟨⟨_, rfl, rfl⟩, trivial⟩) trivial) ?_
                refine al_pure rfl rfl rfl (pure_or rfl rfl (fun _ => rfl) (fun _ hi => gP rfl hi)) ?_
                refine al_nil ?_
                refine awp_cond rfl (fun hc3 => ?_) (fun hc3 => ?_)
                · try simp only [n1, n2, n3, n4, n5, n6, n7, n8, n9, n10, n11, n12, n13, n14, n15, n16, Fd.rows_len, Fm.rows_len, V.rows_len] at hc3
                  refine awp_seq ?_
                  refine awp_region ?_
                  refine al_pure rfl rfl rfl (pure_move rfl (fun _ => rfl)) ?_
                  refine al_call rfl rfl rfl rfl rfl rfl (fun _ => rfl) (fun _ => rfl) (rfail_spec _ _ rfl) rfl ?_
                  refine al_do rfl (does_store rfl rfl rfl rfl rfl rfl rfl) ?_
                  refine al_nil ?_
                  refine awp_ret ?_
                  repeat (first | refine thenS_ret ?_ | refine blockS_ret ?_)
                  refine ret_ok rfl ?_ trivial
                  first | (exfalso; omega) | (rw [if_pos (by omega)]; rfl) | (rw [if_neg (by omega), if_pos (by omega)]; rfl) | (rw [if_neg (by omega), if_neg (by omega)]; rfl)
                · try simp only [n1, n2, n3, n4, n5, n6, n7, n8, n9, n10, n11, n12, n13, n14, n15, n16, Fd.rows_len, Fm.rows_len, V.rows_len] at hc3
                  refine awp_skip ?_
                  refine awp_seq ?_
                  refine awp_region ?_
                  refine al_pure rfl rfl rfl (pure_move rfl (fun _ => rfl)) ?_
                  refine al_pure rfl rfl rfl (pure_build rfl Try.underlying25 rfl (fun _ => rfl)) ?_
                  refine al_pure rfl rfl rfl (pure_move rfl (fun _ => rfl)) ?_
                  refine al_pure rfl rfl rfl (pure_arith rfl rfl (fun _ => rfl) (fun _ => rfl) rfl (IntWalk.i64_in _ (by omega))) ?_
                  refine al_pure rfl rfl rfl (pure_build rfl Try.underlying70 rfl (fun _ => rfl)) ?_
                  refine al_do rfl (does_store rfl rfl rfl rfl rfl rfl rfl) ?_
                  refine al_nil ?_
                  refine awp_ret ?_
                  repeat (first | refine thenS_ret ?_ | refine blockS_ret ?_)
                  refine ret_ok rfl ?_ trivial
                  first | (exfalso; omega) | (rw [if_pos (by omega)]; rfl) | (rw [if_neg (by omega), if_pos (by omega)]; rfl) | (rw [if_neg (by omega), if_neg (by omega)]; rfl)
              · try simp only [n1, n2, n3, n4, n5, n6, n7, n8, n9, n10, n11, n12, n13, n14, n15, n16, Fd.rows_len, Fm.rows_len, V.rows_len] at hc2
                refine awp_skip ?_
                refine awp_seq ?_
                refine awp_seq ?_
                refine awp_region ?_
                refine al_pure rfl rfl rfl (pure_move rfl (fun _ => rfl)) ?_
                refine al_pure rfl rfl rfl (pure_fieldPtr rfl (fun _ => rfl) rfl rfl) ?_
                refine al_pure rfl rfl rfl (pure_loadBox rfl (fun _ => rfl) rfl rfl rfl rfl) ?_
                refine al_pure rfl rfl rfl (pure_cmp rfl rfl (fun _ => rfl) (fun _ => rfl) rfl) ?_
                refine al_nil ?_
                refine awp_sub (s := { t := [(2, _, _), (3, _, _), (4, _, _), (12, _, _), (14, _, _), (106, _, _)], bx := [((.l 12), _)], ow := [] }) (sub_mk (⟨⟨_, rfl, rfl⟩, ⟨⟨_, rfl, rfl⟩, ⟨⟨_, rfl, rfl⟩, ⟨⟨_, rfl, rfl⟩, ⟨⟨_, rfl, rfl⟩, ⟨⟨_, rfl, rfl⟩, trivial⟩⟩⟩⟩⟩⟩) (⟨⟨_, rfl, rfl⟩, trivial⟩) trivial) ?_
                refine awp_cond rfl (fun hc4 => ?_) (fun hc4 => ?_)
                · try simp only [n1, n2, n3, n4, n5, n6, n7, n8, n9, n10, n11, n12, n13, n14, n15, n16, Fd.rows_len, Fm.rows_len, V.rows_len] at hc4
                  refine awp_seq ?_
                  refine awp_region ?_
                  refine al_pure rfl rfl rfl (pure_move rfl (fun _ => rfl)) ?_
                  refine al_call rfl rfl rfl rfl rfl rfl (fun _ => rfl) (fun _ => rfl) (rfail_spec _ _ rfl) rfl ?_
                  refine al_do rfl (does_store rfl rfl rfl rfl rfl rfl rfl) ?_
                  refine al_nil ?_
                  refine awp_ret ?_
                  repeat (first | refine thenS_ret ?_ | refine blockS_ret ?_)
                  refine ret_ok rfl ?_ trivial
                  first | (exfalso; omega) | (rw [if_pos (by omega)]; rfl) | (rw [if_neg (by omega), if_pos (by omega)]; rfl) | (rw [if_neg (by omega), if_neg (by omega)]; rfl)
                · try simp only [n1, n2, n3, n4, n5, n6, n7, n8, n9, n10, n11, n12, n13, n14, n15, n16, Fd.rows_len, Fm.rows_len, V.rows_len] at hc4
                  refine awp_skip ?_
                  refine awp_seq ?_
                  refine awp_region ?_
                  refine al_pure rfl rfl rfl (pure_move rfl (fun _ => rfl)) ?_
                  refine al_pure rfl rfl rfl (pure_move rfl (fun _ => rfl)) ?_
                  refine al_pure rfl rfl rfl (pure_arith rfl rfl (fun _ => rfl) (fun _ => rfl) rfl (IntWalk.i64_in _ (by omega))) ?_
                  refine al_pure rfl rfl rfl (pure_move rfl (fun _ => rfl)) ?_
                  refine al_pure rfl rfl rfl (pure_move rfl (fun _ => rfl)) ?_
                  refine al_call rfl rfl rfl rfl rfl rfl (fun _ => rfl) (fun _ => rfl) (rtake_spec _ (a + 1) (s.getD a 0).toNat _ _ _ _ (by omega) rfl rfl (by omega) (by omega) (by omega) (by omega)) rfl ?_
                  refine al_do rfl (does_store rfl rfl rfl rfl rfl rfl rfl) ?_
                  refine al_nil ?_
                  refine awp_ret ?_
                  repeat (first | refine thenS_ret ?_ | refine blockS_ret ?_)
                  refine ret_ok rfl ?_ trivial
                  first | (exfalso; omega) | (rw [if_pos (by omega)]; rfl) | (rw [if_neg (by omega), if_pos (by omega)]; rfl) | (rw [if_neg (by omega), if_neg (by omega)]; rfl)
          · rw [if_neg (by omega), if_pos h3]
            refine awp_skip ?_
            refine awp_seq ?_
            refine awp_seq ?_
            refine awp_region ?_
            refine al_pure rfl rfl rfl (pure_move rfl (fun _ => rfl)) ?_
            refine al_pure rfl rfl rfl (pure_move rfl (fun _ => rfl)) ?_
            refine al_pure rfl rfl rfl (pure_cmp rfl rfl (fun _ => rfl) (fun _ => rfl) rfl) ?_
            refine al_nil ?_
            refine awp_cond rfl (fun hc5 => ?_) (fun hc5 => ?_)
            · try simp only [n1, n2, n3, n4, n5, n6, n7, n8, n9, n10, n11, n12, n13, n14, n15, n16, Fd.rows_len, Fm.rows_len, V.rows_len] at hc5
              refine awp_seq ?_
              refine awp_region ?_
              refine al_pure rfl rfl rfl (pure_move rfl (fun _ => rfl)) ?_
              refine al_call rfl rfl rfl rfl rfl rfl (fun _ => rfl) (fun _ => rfl) (rfail_spec _ _ rfl) rfl ?_
              refine al_do rfl (does_store rfl rfl rfl rfl rfl rfl rfl) ?_
              refine al_nil ?_
              refine awp_ret ?_
              repeat (first | refine thenS_ret ?_ | refine blockS_ret ?_)
              refine ret_ok rfl ?_ trivial
              first | (exfalso; omega) | (rw [if_pos (by omega)]; rfl) | (rw [if_neg (by omega), if_pos (by omega)]; rfl) | (rw [if_neg (by omega), if_neg (by omega)]; rfl)
            · try simp only [n1, n2, n3, n4, n5, n6, n7, n8, n9, n10, n11, n12, n13, n14, n15, n16, Fd.rows_len, Fm.rows_len, V.rows_len] at hc5
              refine awp_skip ?_
              refine awp_seq ?_
              refine awp_region ?_
              refine al_pure rfl rfl rfl (pure_move rfl (fun _ => rfl)) ?_
              refine al_pure rfl rfl rfl (pure_move rfl (fun _ => rfl)) ?_
              refine al_pure rfl rfl rfl (pure_indexSg (j := a) rfl rfl (fun _ => rfl) (fun _ => rfl) Try.underlying9 (by first | omega | (simp at hh; omega)) (fun hh => by first | omega | (simp at hh; omega))) ?_
              refine al_pure rfl rfl rfl (pure_convInt rfl (fun _ => rfl) ⟨_, Try.underlying5⟩ (Try.underlying3) (IntWalk.i64_in _ (by omega))) ?_
              refine al_pure rfl rfl rfl (pure_assign rfl (fun _ => rfl)) ?_
              refine al_nil ?_
              refine awp_sub (s := { t := [(2, _, _), (3, _, _), (4, _, _), (7, _, _), (12, _, _), (14, _, _)], bx := [((.l 12), _), ((.l 7), _)], ow := [] }) (sub_mk (⟨⟨_, rfl, rfl⟩, ⟨⟨_, rfl, rfl⟩, ⟨⟨_, rfl, rfl⟩, ⟨⟨_, rfl, rfl⟩, ⟨⟨_, rfl, rfl⟩, ⟨⟨_, rfl, rfl⟩, trivial⟩⟩⟩⟩⟩⟩) (⟨⟨_, rfl, rfl⟩, ⟨⟨_, rfl, rfl⟩, trivial⟩⟩) trivial) ?_
              refine awp_seq ?_
              refine awp_seq ?_
              refine awp_region ?_
              refine al_pure rfl rfl rfl (pure_fieldPtr rfl (fun _ => rfl) rfl rfl) ?_
              refine al_pure rfl rfl rfl (pure_loadBox rfl (fun _ => rfl) rfl rfl rfl rfl) ?_
              refine al_pure rfl rfl rfl (pure_cmp rfl rfl (fun _ => rfl) (fun _ => rfl) rfl) ?_
              refine al_nil ?_
              refine awp_cond rfl (fun hc6 => ?_) (fun hc6 => ?_)
              · try simp only [n1, n2, n3, n4, n5, n6, n7, n8, n9, n10, n11, n12, n13, n14, n15, n16, Fd.rows_len, Fm.rows_len, V.rows_len] at hc6
                refine awp_seq ?_
                refine awp_seq ?_
                refine awp_region ?_
                refine al_pure rfl rfl rfl (pure_move rfl (fun _ => rfl)) ?_
                refine al_pure rfl rfl rfl (pure_fieldPtr rfl (fun _ => rfl) rfl rfl) ?_
                refine al_pure rfl rfl rfl (pure_loadBox rfl (fun _ => rfl) rfl rfl rfl rfl) ?_
                refine al_pure rfl rfl rfl (pure_cmp rfl rfl (fun _ => rfl) (fun _ => rfl) rfl) ?_
                refine al_pure rfl rfl rfl (pure_move rfl (fun _ => rfl)) ?_
                refine al_pure rfl rfl rfl (pure_move rfl (fun _ => rfl)) ?_
                refine al_pure rfl rfl rfl (pure_fieldPtr rfl (fun _ => rfl) rfl rfl) ?_
                refine al_pure rfl rfl rfl (pure_loadBox rfl (fun hh => hh) rfl rfl rfl rfl) ?_
                refine al_pure rfl rfl rfl (pure_cmp rfl rfl (fun hh => hh) (fun hh => hh) rfl) ?_
                refine al_sub (s := { t := [(3, _, _), (12, _, _), (14, _, _), (90, _, _), (94, _, _)], bx := [((.l 12), _)], ow := [] }) (sub_mk (⟨⟨_, rfl, rfl⟩, ⟨⟨_, rfl, rfl⟩, ⟨⟨_, rfl, rfl⟩, ⟨⟨_, rfl, rfl⟩, ⟨⟨_, rfl, rfl⟩, trivial⟩⟩⟩⟩⟩) (⟨⟨_, rfl, rfl⟩, trivial⟩) trivial) ?_
                refine al_pure rfl rfl rfl (pure_or rfl rfl (fun _ => rfl) (fun _ hi => gP rfl hi)) ?_
                refine al_nil ?_
                refine awp_cond rfl (fun hc7 => ?_) (fun hc7 => ?_)
                · try simp only [n1, n2, n3, n4, n5, n6, n7, n8, n9, n10, n11, n12, n13, n14, n15, n16, Fd.rows_len, Fm.rows_len, V.rows_len] at hc7
                  refine awp_seq ?_
                  refine awp_region ?_
                  refine al_pure rfl rfl rfl (pure_move rfl (fun _ => rfl)) ?_
                  refine al_call rfl rfl rfl rfl rfl rfl (fun _ => rfl) (fun _ => rfl) (rfail_spec _ _ rfl) rfl ?_
                  refine al_do rfl (does_store rfl rfl rfl rfl rfl rfl rfl) ?_
                  refine al_nil ?_
                  refine awp_ret ?_
                  repeat (first | refine thenS_ret ?_ | refine blockS_ret ?_)
                  refine ret_ok rfl ?_ trivial
                  first | (exfalso; omega) | (rw [if_pos (by omega)]; rfl) | (rw [if_neg (by omega), if_pos (by omega)]; rfl) | (rw [if_neg (by omega), if_neg (by omega)]; rfl)
                · try simp only [n1, n2, n3, n4, n5, n6, n7, n8, n9, n10, n11, n12, n13, n14, n15, n16, Fd.rows_len, Fm.rows_len, V.rows_len] at hc7
                  refine awp_skip ?_
                  refine awp_seq ?_
                  refine awp_region ?_
                  refine al_pure rfl rfl rfl (pure_move rfl (fun _ => rfl)) ?_
                  refine al_pure rfl rfl rfl (pure_build rfl Try.underlying25 rfl (fun _ => rfl)) ?_
                  refine al_pure rfl rfl rfl (pure_move rfl (fun _ => rfl)) ?_
                  refine al_pure rfl rfl rfl (pure_arith rfl rfl (fun _ => rfl) (fun _ => rfl) rfl (IntWalk.i64_in _ (by omega))) ?_
                  refine al_pure rfl rfl rfl (pure_build rfl Try.underlying70 rfl (fun _ => rfl)) ?_
                  refine al_do rfl (does_store rfl rfl rfl rfl rfl rfl rfl) ?_
                  refine al_nil ?_
                  refine awp_ret ?_
                  repeat (first | refine thenS_ret ?_ | refine blockS_ret ?_)
                  refine ret_ok rfl ?_ trivial
                  first | (exfalso; omega) | (rw [if_pos (by omega)]; rfl) | (rw [if_neg (by omega), if_pos (by omega)]; rfl) | (rw [if_neg (by omega), if_neg (by omega)]; rfl)
              · try simp only [n1, n2, n3, n4, n5, n6, n7, n8, n9, n10, n11, n12, n13, n14, n15, n16, Fd.rows_len, Fm.rows_len, V.rows_len] at hc6
                refine awp_skip ?_
                refine awp_seq ?_
                refine awp_seq ?_
                refine awp_region ?_
                refine al_pure rfl rfl rfl (pure_move rfl (fun _ => rfl)) ?_
                refine al_pure rfl rfl rfl (pure_fieldPtr rfl (fun _ => rfl) rfl rfl) ?_
                refine al_pure rfl rfl rfl (pure_loadBox rfl (fun _ => rfl) rfl rfl rfl rfl) ?_
                refine al_pure rfl rfl rfl (pure_cmp rfl rfl (fun _ => rfl) (fun _ => rfl) rfl) ?_
                refine al_nil ?_
                refine awp_sub (s := { t := [(2, _, _), (3, _, _), (4, _, _), (12, _, _), (14, _, _), (106, _, _)], bx := [((.l 12), _)], ow := [] }) (sub_mk (⟨⟨_, rfl, rfl⟩, ⟨⟨_, rfl, rfl⟩, ⟨⟨_, rfl, rfl⟩, ⟨⟨_, rfl, rfl⟩, ⟨⟨_, rfl, rfl⟩, ⟨⟨_, rfl, rfl⟩, trivial⟩⟩⟩⟩⟩⟩) (⟨⟨_, rfl, rfl⟩, trivial⟩) trivial) ?_
                refine awp_cond rfl (fun hc8 => ?_) (fun hc8 => ?_)
                · try simp only [n1, n2, n3, n4, n5, n6, n7, n8, n9, n10, n11, n12, n13, n14, n15, n16, Fd.rows_len, Fm.rows_len, V.rows_len] at hc8
                  refine awp_seq ?_
                  refine awp_region ?_
                  refine al_pure rfl rfl rfl (pure_move rfl (fun _ => rfl)) ?_
                  refine al_call rfl rfl rfl rfl rfl rfl (fun _ => rfl) (fun _ => rfl) (rfail_spec _ _ rfl) rfl ?_
                  refine al_do rfl (does_store rfl rfl rfl rfl rfl rfl rfl) ?_
                  refine al_nil ?_
                  refine awp_ret ?_
                  repeat (first | refine thenS_ret ?_ | refine blockS_ret ?_)
                  refine ret_ok rfl ?_ trivial
                  first | (exfalso; omega) | (rw [if_pos (by omega)]; rfl) | (rw [if_neg (by omega), if_pos (by omega)]; rfl) | (rw [if_neg (by omega), if_neg (by omega)]; rfl)
                · try simp only [n1, n2, n3, n4, n5, n6, n7, n8, n9, n10, n11, n12, n13, n14, n15, n16, Fd.rows_len, Fm.rows_len, V.rows_len] at hc8
                  refine awp_skip ?_
                  refine awp_seq ?_
                  refine awp_region ?_
                  refine al_pure rfl rfl rfl (pure_move rfl (fun _ => rfl)) ?_
                  refine al_pure rfl rfl rfl (pure_move rfl (fun _ => rfl)) ?_
                  refine al_pure rfl rfl rfl (pure_arith rfl rfl (fun _ => rfl) (fun _ => rfl) rfl (IntWalk.i64_in _ (by omega))) ?_
                  refine al_pure rfl rfl rfl (pure_move rfl (fun _ => rfl)) ?_
                  refine al_pure rfl rfl rfl (pure_move rfl (fun _ => rfl)) ?_
                  refine al_call rfl rfl rfl rfl rfl rfl (fun _ => rfl) (fun _ => rfl) (rtake_spec _ (a + 1) (s.getD a 0).toNat _ _ _ _ (by omega) rfl rfl (by omega) (by omega) (by omega) (by omega)) rfl ?_
                  refine al_do rfl (does_store rfl rfl rfl rfl rfl rfl rfl) ?_
                  refine al_nil ?_
                  refine awp_ret ?_
                  repeat (first | refine thenS_ret ?_ | refine blockS_ret ?_)
                  refine ret_ok rfl ?_ trivial
                  first | (exfalso; omega) | (rw [if_pos (by omega)]; rfl) | (rw [if_neg (by omega), if_pos (by omega)]; rfl) | (rw [if_neg (by omega), if_neg (by omega)]; rfl)
end Go.Proofs.Ytgjclggjkhapfaa
/- Contracts: Decode, Prefix, as the reference does. -/
set_option linter.unusedVariables false
set_option linter.unusedSimpArgs false
namespace Go.Proofs.Ytgjclggjkhapfaa
open Go Go.Abs
theorem rread_gen (t : List Fm) (i : Int) (s : List UInt8) (a0 e : Nat) (ai ei : Int) (pre : Bool) (rec : Int → Nat → Nat → Pl) (ha : ai = a0) (he : ei = e) (h1 : a0 ≤ e) (h2 : e ≤ s.length) (hs : s.length ≤ 100000) (hi : 0 ≤ i ∧ i < t.length)
    (hl6 : (t.getD i.toNat default).fields.length ≤ 6)
    (hfd : ∀ k, k < (t.getD i.toNat default).fields.length → FdOk ((t.getD i.toNat default).fields.getD k default))
    (hle : ∀ k, k < (t.getD i.toNat default).fields.length → ((t.getD i.toNat default).fields.getD k default).kind = 5 → ∀ b c, b ≤ c → b ≤ (rec ((t.getD i.toNat default).fields.getD k default).n b c).p ∧ (rec ((t.getD i.toNat default).fields.getD k default).n b c).p ≤ c)
    (hrec : ∀ k, k < (t.getD i.toNat default).fields.length → ((t.getD i.toNat default).fields.getD k default).kind = 5 → ∀ b c, b ≤ c → c ≤ s.length → ∀ bi ci : Int, bi = b → ci = c →
      Ctr sys 42 [xtab t, xi ((t.getD i.toNat default).fields.getD k default).n, xs s, xi bi, xi ci, xb false] [] (xpl (rec ((t.getD i.toNat default).fields.getD k default).n b c)) none []) :
    Ctr sys 42 [xtab t, xi i, xs s, xi ai, xi ei, xb pre] [] (xpl (readL false rec t s e pre (t.getD i.toNat default).fields [] a0)) none [] := by
  subst ha; subst he
  have hrl := Fm.rows_len t
  have hrf := Fd.rows_len (t.getD i.toNat default).fields
  refine spec_intro Try.func42 rfl rfl rfl rfl rfl rfl ?_
  refine awp_seq ?_
  refine awp_region ?_
  refine al_do rfl (does_alloc rfl rfl rfl) ?_
  refine al_nil ?_
  refine awp_seq ?_
  refine awp_region ?_
  refine al_do rfl (does_allocX rfl rfl rfl rfl) ?_
  refine al_nil ?_
  refine awp_seq ?_
  refine awp_seq ?_
  refine awp_region ?_
  refine al_pure rfl rfl rfl (pure_assign rfl (fun _ => rfl)) ?_
  refine al_nil ?_
  refine awp_block ?_
  refine awp_own (.l 13) 2 3 rfl rfl rfl ?_
  refine awp_for (ι := Nat × List V × Nat) { t := [(0, _, _), (1, _, _), (2, _, _), (4, _, _), (5, _, _), (12, _, _), (13, _, _)], bx := [((.l 12), _)], ow := [((.b (.l 13) 2), _)] } (fun p => [(14, true, xi (p.1 : Int)), (3, true, xi (p.2.2 : Int))]) (fun p => [((.l 13), [.s [], .i .i64 0, .sl 3 (V.rows p.2.1)])]) (fun p => p.1 ≤ (t.getD i.toNat default).fields.length ∧ p.2.1.length ≤ p.1 ∧ p.2.2 ≤ e ∧ readL false rec t s e pre ((t.getD i.toNat default).fields.drop p.1) p.2.1 p.2.2 = readL false rec t s e pre (t.getD i.toNat default).fields [] a0) (fun p => (t.getD i.toNat default).fields.length - p.1) ((0, [], a0)) (⟨by simp, by simp, h1, rfl⟩) (sub_mk (⟨⟨_, rfl, rfl⟩, ⟨⟨_, rfl, rfl⟩, ⟨⟨_, rfl, rfl⟩, ⟨⟨_, rfl, rfl⟩, ⟨⟨_, rfl, rfl⟩, ⟨⟨_, rfl, rfl⟩, ⟨⟨_, rfl, rfl⟩, ⟨⟨_, rfl, rfl⟩, ⟨⟨_, rfl, rfl⟩, trivial⟩⟩⟩⟩⟩⟩⟩⟩⟩) (⟨⟨_, rfl, rfl⟩, ⟨⟨_, rfl, rfl⟩, trivial⟩⟩) (⟨rfl, trivial⟩)) ?_
  intro p hok
  dsimp only [List.cons_append, List.nil_append] at *
  obtain ⟨k, vs, a⟩ := p
  dsimp only at hok ⊢
  obtain ⟨hk, hvk, hae, hinv⟩ := hok
  have hvr := V.rows_len vs
  refine awp_seq ?_
  refine awp_seq ?_
  refine awp_region ?_
  refine al_pure rfl rfl rfl (pure_move rfl (fun _ => rfl)) ?_
  refine al_pure rfl rfl rfl (pure_move rfl (fun _ => rfl)) ?_
  refine al_pure rfl rfl rfl (pure_move rfl (fun _ => rfl)) ?_
  refine al_pure rfl rfl rfl (pure_indexAddr (j := i.toNat) rfl rfl (fun _ => rfl) (fun _ => rfl) rfl rfl (by omega) (fun hh => Fm.rows_at (by omega))) ?_
  refine al_pure rfl rfl rfl (pure_fieldRo rfl (fun _ => rfl) rfl rfl) ?_
  refine al_pure rfl rfl rfl (pure_loadRo rfl (fun _ => rfl) rfl rfl rfl) ?_
  refine al_lenSl rfl rfl rfl rfl rfl (fun _ => rfl) rfl rfl ?_ (fun hh => by simp at hh); intro hlen
  refine al_pure rfl rfl rfl (pure_cmp rfl rfl (fun _ => rfl) (fun _ => rfl) rfl) ?_
  refine al_nil ?_
  refine awp_sub (s := { t := [(0, _, _), (1, _, _), (2, _, _), (3, _, _), (4, _, _), (5, _, _), (12, _, _), (13, _, _), (14, _, _), (23, _, _)], bx := [((.l 12), _), ((.l 13), _)], ow := [((.b (.l 13) 2), _)] }) (sub_mk (⟨⟨_, rfl, rfl⟩, ⟨⟨_, rfl, rfl⟩, ⟨⟨_, rfl, rfl⟩, ⟨⟨_, rfl, rfl⟩, ⟨⟨_, rfl, rfl⟩, ⟨⟨_, rfl, rfl⟩, ⟨⟨_, rfl, rfl⟩, ⟨⟨_, rfl, rfl⟩, ⟨⟨_, rfl, rfl⟩, ⟨⟨_, rfl, rfl⟩, trivial⟩⟩⟩⟩⟩⟩⟩⟩⟩⟩) (⟨⟨_, rfl, rfl⟩, ⟨⟨_, rfl, rfl⟩, trivial⟩⟩) (⟨rfl, trivial⟩)) ?_
  refine awp_cond rfl (fun hc => ?_) (fun hc => ?_)
  · try simp only [n1, n2, n3, n4, n5, n6, n7, n8, n9, n10, n11, n12, n13, n14, n15, n16, Fd.rows_len, Fm.rows_len, V.rows_len] at hc
    have hfl := fldP_le (k := false) (t := t) (s := s) (pre := pre) hae (hle k (by omega))
    rw [drop_getD (l := (t.getD i.toNat default).fields) (by omega), readL] at hinv
    refine awp_skip ?_
    refine awp_seq ?_
    refine awp_block ?_
    refine awp_seq ?_
    refine awp_region ?_
    refine al_pure rfl rfl rfl (pure_move rfl (fun _ => rfl)) ?_
    refine al_pure rfl rfl rfl (pure_move rfl (fun _ => rfl)) ?_
    refine al_pure rfl rfl rfl (pure_move rfl (fun _ => rfl)) ?_
    refine al_pure rfl rfl rfl (pure_indexAddr (j := i.toNat) rfl rfl (fun _ => rfl) (fun _ => rfl) rfl rfl (by omega) (fun hh => Fm.rows_at (by omega))) ?_
    refine al_pure rfl rfl rfl (pure_fieldRo rfl (fun _ => rfl) rfl rfl) ?_
    refine al_pure rfl rfl rfl (pure_loadRo rfl (fun _ => rfl) rfl rfl rfl) ?_
    refine al_pure rfl rfl rfl (pure_move rfl (fun _ => rfl)) ?_
    refine al_pure rfl rfl rfl (pure_indexAddr rfl rfl (fun _ => rfl) (fun _ => rfl) rfl rfl rfl (fun hh => Fd.rows_at (by omega))) ?_
    refine al_pure rfl rfl rfl (pure_loadRoRow rfl (fun _ => rfl) rfl rfl rfl rfl) ?_
    refine al_pure rfl rfl rfl (pure_move rfl (fun _ => rfl)) ?_
    refine al_pure rfl rfl rfl (pure_move rfl (fun _ => rfl)) ?_
    refine al_pure rfl rfl rfl (pure_move rfl (fun _ => rfl)) ?_
    refine al_sub (s := { t := [(0, _, _), (1, _, _), (2, _, _), (4, _, _), (5, _, _), (12, _, _), (13, _, _), (14, _, _), (26, _, _), (34, _, _), (35, _, _), (36, _, _), (37, _, _)], bx := [((.l 12), _), ((.l 13), _)], ow := [((.b (.l 13) 2), _)] }) (sub_mk (⟨⟨_, rfl, rfl⟩, ⟨⟨_, rfl, rfl⟩, ⟨⟨_, rfl, rfl⟩, ⟨⟨_, rfl, rfl⟩, ⟨⟨_, rfl, rfl⟩, ⟨⟨_, rfl, rfl⟩, ⟨⟨_, rfl, rfl⟩, ⟨⟨_, rfl, rfl⟩, ⟨⟨_, rfl, rfl⟩, ⟨⟨_, rfl, rfl⟩, ⟨⟨_, rfl, rfl⟩, ⟨⟨_, rfl, rfl⟩, ⟨⟨_, rfl, rfl⟩, trivial⟩⟩⟩⟩⟩⟩⟩⟩⟩⟩⟩⟩⟩) (⟨⟨_, rfl, rfl⟩, ⟨⟨_, rfl, rfl⟩, trivial⟩⟩) (⟨rfl, trivial⟩)) ?_
    refine al_pure rfl rfl rfl (pure_move rfl (fun _ => rfl)) ?_
    refine al_call rfl rfl rfl rfl rfl rfl (fun _ => rfl) (fun _ => rfl) (rfield_gen _ _ _ _ _ _ _ rec (hfd k (by omega)) (by first | rfl | omega) hae h2 hs (hle k (by omega)) (hrec k (by omega))) rfl ?_
    refine al_do rfl (does_alloc rfl rfl rfl) ?_
    refine al_do rfl (does_store rfl rfl rfl rfl rfl rfl rfl) ?_
    refine al_nil ?_
    refine awp_seq ?_
    refine awp_seq ?_
    refine awp_region ?_
    refine al_pure rfl rfl rfl (pure_fieldPtr rfl (fun _ => rfl) rfl rfl) ?_
    refine al_pure rfl rfl rfl (pure_loadBox rfl (fun _ => rfl) rfl rfl rfl rfl) ?_
    refine al_pure rfl rfl rfl (pure_not rfl (fun _ => rfl)) ?_
    refine al_nil ?_
    refine awp_sub (s := { t := [(0, _, _), (1, _, _), (2, _, _), (4, _, _), (5, _, _), (12, _, _), (13, _, _), (14, _, _), (15, _, _), (42, _, _)], bx := [((.l 12), _), ((.l 13), _), ((.l 15), _)], ow := [((.b (.l 13) 2), _)] }) (sub_mk (⟨⟨_, rfl, rfl⟩, ⟨⟨_, rfl, rfl⟩, ⟨⟨_, rfl, rfl⟩, ⟨⟨_, rfl, rfl⟩, ⟨⟨_, rfl, rfl⟩, ⟨⟨_, rfl, rfl⟩, ⟨⟨_, rfl, rfl⟩, ⟨⟨_, rfl, rfl⟩, ⟨⟨_, rfl, rfl⟩, ⟨⟨_, rfl, rfl⟩, trivial⟩⟩⟩⟩⟩⟩⟩⟩⟩⟩) (⟨⟨_, rfl, rfl⟩, ⟨⟨_, rfl, rfl⟩, ⟨⟨_, rfl, rfl⟩, trivial⟩⟩⟩) (⟨rfl, trivial⟩)) ?_
    refine awp_cond rfl (fun hc2 => ?_) (fun hc2 => ?_)
    · try simp only [n1, n2, n3, n4, n5, n6, n7, n8, n9, n10, n11, n12, n13, n14, n15, n16, Fd.rows_len, Fm.rows_len, V.rows_len] at hc2
      rw [if_neg (by rw [hc2]; exact Bool.false_ne_true)] at hinv
      refine awp_seq ?_
      refine awp_region ?_
      refine al_pure rfl rfl rfl (pure_fieldPtr rfl (fun _ => rfl) rfl rfl) ?_
      refine al_pure rfl rfl rfl (pure_loadBox rfl (fun _ => rfl) rfl rfl rfl rfl) ?_
      refine al_call rfl rfl rfl rfl rfl rfl (fun _ => rfl) (fun _ => rfl) (rfail_spec _ _ rfl) rfl ?_
      refine al_do rfl (does_store rfl rfl rfl rfl rfl rfl rfl) ?_
      refine al_nil ?_
      refine awp_ret ?_
      repeat (first | refine thenS_ret ?_ | refine blockS_ret ?_)
      refine ret_ok rfl ?_ trivial
      (rw [← hinv]; rfl)
    · try simp only [n1, n2, n3, n4, n5, n6, n7, n8, n9, n10, n11, n12, n13, n14, n15, n16, Fd.rows_len, Fm.rows_len, V.rows_len] at hc2
      rw [if_pos hc2] at hinv
      refine awp_skip ?_
      refine awp_seq ?_
      refine awp_region ?_
      refine al_pure rfl rfl rfl (pure_fieldPtr rfl (fun _ => rfl) rfl rfl) ?_
      refine al_do rfl (does_loadTake rfl rfl rfl rfl rfl rfl rfl) ?_
      refine al_pure rfl rfl rfl (pure_fieldPtr rfl (fun _ => rfl) rfl rfl) ?_
      refine al_pure rfl rfl rfl (pure_loadBoxRow rfl (fun _ => rfl) rfl rfl rfl rfl rfl) ?_
      refine al_buildSlice (xs := [_]) rfl rfl rfl rfl rfl rfl rfl rfl rfl (fun _ => rfl) rfl ?_
      refine al_do rfl (does_append rfl rfl rfl rfl rfl rfl rfl (by simp [V.rows_len]; omega) (by simp [V.rows_len]; omega)) ?_
      refine al_pure rfl rfl rfl (pure_fieldPtr rfl (fun _ => rfl) rfl rfl) ?_
      refine al_do rfl (does_storeOwn rfl rfl rfl rfl rfl rfl rfl) ?_
      refine al_nil ?_
      refine awp_sub (s := { t := [(0, _, _), (1, _, _), (2, _, _), (4, _, _), (5, _, _), (12, _, _), (13, _, _), (14, _, _), (15, _, _)], bx := [((.l 12), _), ((.l 13), _), ((.l 15), _)], ow := [((.b (.l 13) 2), _)] }) (sub_mk (⟨⟨_, rfl, rfl⟩, ⟨⟨_, rfl, rfl⟩, ⟨⟨_, rfl, rfl⟩, ⟨⟨_, rfl, rfl⟩, ⟨⟨_, rfl, rfl⟩, ⟨⟨_, rfl, rfl⟩, ⟨⟨_, rfl, rfl⟩, ⟨⟨_, rfl, rfl⟩, ⟨⟨_, rfl, rfl⟩, trivial⟩⟩⟩⟩⟩⟩⟩⟩⟩) (⟨⟨_, rfl, rfl⟩, ⟨⟨_, rfl, rfl⟩, ⟨⟨_, rfl, rfl⟩, trivial⟩⟩⟩) (⟨rfl, trivial⟩)) ?_
      refine awp_region ?_
      refine al_pure rfl rfl rfl (pure_fieldPtr rfl (fun _ => rfl) rfl rfl) ?_
      refine al_pure rfl rfl rfl (pure_loadBox rfl (fun _ => rfl) rfl rfl rfl rfl) ?_
      refine al_pure rfl rfl rfl (pure_assign rfl (fun _ => rfl)) ?_
      refine al_nil ?_
      refine awp_region ?_
      refine al_pure rfl rfl rfl (pure_move rfl (fun _ => rfl)) ?_
      refine al_pure rfl rfl rfl (pure_arith rfl rfl (fun _ => rfl) (fun _ => rfl) rfl (IntWalk.i64_in _ (by omega))) ?_
      refine al_pure rfl rfl rfl (pure_assign rfl (fun _ => rfl)) ?_
      refine al_nil ?_
      refine ⟨(k + 1, vs ++ [(fldP false rec t (((t.getD i.toNat default).fields.getD k default)) s a e pre).v], (fldP false rec t (((t.getD i.toNat default).fields.getD k default)) s a e pre).p), ?_, ?_, sub_mk (⟨⟨_, rfl, ?_⟩, ⟨⟨_, rfl, ?_⟩, ⟨⟨_, rfl, rfl⟩, ⟨⟨_, rfl, rfl⟩, ⟨⟨_, rfl, rfl⟩, ⟨⟨_, rfl, rfl⟩, ⟨⟨_, rfl, rfl⟩, ⟨⟨_, rfl, rfl⟩, ⟨⟨_, rfl, rfl⟩, trivial⟩⟩⟩⟩⟩⟩⟩⟩⟩) (⟨⟨_, rfl, ?_⟩, ⟨⟨_, rfl, rfl⟩, trivial⟩⟩) (⟨rfl, trivial⟩)⟩
      · exact ⟨by dsimp only; omega, by simp; omega, hfl.2, hinv⟩
      · dsimp only; omega
      · rfl
      · rfl
      · show [C.s [], C.i .i64 0, C.sl 3 (V.rows vs ++ [_])] = _
        rw [← V.rows_snoc]; rfl
  · try simp only [n1, n2, n3, n4, n5, n6, n7, n8, n9, n10, n11, n12, n13, n14, n15, n16, Fd.rows_len, Fm.rows_len, V.rows_len] at hc
    rw [List.drop_of_length_le (by omega), readL] at hinv
    refine awp_exit ?_
    repeat (first | refine thenS_exit ?_ | refine blockS_hit ?_ | refine blockS_miss rfl ?_)
    refine awp_seq ?_
    refine awp_region ?_
    refine al_pure rfl rfl rfl (pure_loadBoxRow rfl (fun _ => rfl) rfl rfl rfl rfl rfl) ?_
    refine al_pure rfl rfl rfl (pure_move rfl (fun _ => rfl)) ?_
    refine al_pure rfl rfl rfl (pure_build rfl Try.underlying70 rfl (fun _ => rfl)) ?_
    refine al_do rfl (does_store rfl rfl rfl rfl rfl rfl rfl) ?_
    refine al_nil ?_
    refine awp_ret ?_
    repeat (first | refine thenS_ret ?_ | refine blockS_ret ?_)
    refine ret_ok rfl ?_ trivial
    (rw [← hinv]; rfl)
theorem rread_spec (t : List Fm) (i : Int) (s : List UInt8) (a e : Nat) (ai ei : Int) (pre : Bool) (ha : ai = a) (he : ei = e) (h1 : a ≤ e) (h2 : e ≤ s.length) (hs : s.length ≤ 100000) (hi : 0 ≤ i ∧ i < t.length) (h : Fds t (t.getD i.toNat default).fields) :
    Ctr sys 42 [xtab t, xi i, xs s, xi ai, xi ei, xb pre] [] (xpl (readT false t s pre i a e)) none [] := by
  refine rread_gen t i s a e ai ei pre (read0 false t s) ha he h1 h2 hs hi h.len.2 h.ok (fun k hk h5 b c hbc => read0_le hbc (h.nest k hk h5).2) fun k hk h5 b c hbc hc bi ci hb hci => ?_
  obtain ⟨q1, q2⟩ := h.nest k hk h5
  have q3 := (h.ok k hk).n
  exact rread_gen t _ s b c bi ci false (fun _ _ _ => failP 0) hb hci hbc hc hs (by omega) q2.len.2 (fun j hj => (q2.ok j hj).1) (fun j hj h6 => absurd h6 (q2.ok j hj).2.1) fun j hj h6 => absurd h6 (q2.ok j hj).2.1
/-- Decode's answer: value, position, error. -/
abbrev D3 := V × Int × Int
def decE (t : List Fm) (i : Int) (s : List UInt8) : D3 := if errE t i ≠ 0 then (v0, 0, errE t i) else
  if (readT false t s false i 0 s.length).ok = false ∨ (readT false t s false i 0 s.length).p < s.length then (v0, (readT false t s false i 0 s.length).p, 2) else ((readT false t s false i 0 s.length).v, 0, 0)
def preE (t : List Fm) (i : Int) (s : List UInt8) : D3 := if errE t i ≠ 0 then (v0, 0, errE t i) else
  if (readT false t s true i 0 s.length).ok = false then (v0, (readT false t s true i 0 s.length).p, 2) else ((readT false t s true i 0 s.length).v, (readT false t s true i 0 s.length).p, 0)
abbrev xd3 (d : D3) : X := .tup [.agg d.1.cells, .c (.i .i64 d.2.1), .c (.i .i64 d.2.2)]
theorem rDecode_spec (t : List Fm) (i : Int) (s : List UInt8) (hs : s.length ≤ 100000) : Ctr sys 20 [xtab t, xi i, xs s] [] (xd3 (decE t i s)) none [] := by
  refine spec_intro Try.func20 rfl rfl rfl rfl rfl rfl ?_
  refine awp_seq ?_
  refine awp_region ?_
  refine al_do rfl (does_alloc rfl rfl rfl) ?_
  refine al_pure rfl rfl rfl (pure_assign rfl (fun _ => rfl)) ?_
  refine al_pure rfl rfl rfl (pure_assign rfl (fun _ => rfl)) ?_
  refine al_nil ?_
  refine awp_seq ?_
  refine awp_seq ?_
  refine awp_region ?_
  refine al_pure rfl rfl rfl (pure_move rfl (fun _ => rfl)) ?_
  refine al_pure rfl rfl rfl (pure_move rfl (fun _ => rfl)) ?_
  refine al_call rfl rfl rfl rfl rfl rfl (fun _ => rfl) (fun _ => rfl) (rError_spec _ _) rfl ?_
  refine al_pure rfl rfl rfl (pure_assign rfl (fun _ => rfl)) ?_
  refine al_nil ?_
  refine awp_sub (s := { t := [(0, _, _), (1, _, _), (2, _, _), (6, _, _), (9, _, _)], bx := [((.l 6), _)], ow := [] }) (sub_mk (⟨⟨_, rfl, rfl⟩, ⟨⟨_, rfl, rfl⟩, ⟨⟨_, rfl, rfl⟩, ⟨⟨_, rfl, rfl⟩, ⟨⟨_, rfl, rfl⟩, trivial⟩⟩⟩⟩⟩) (⟨⟨_, rfl, rfl⟩, trivial⟩) trivial) ?_
  refine awp_seq ?_
  refine awp_region ?_
  refine al_pure rfl rfl rfl (pure_move rfl (fun _ => rfl)) ?_
  refine al_pure rfl rfl rfl (pure_cmp rfl rfl (fun _ => rfl) (fun _ => rfl) rfl) ?_
  refine al_nil ?_
  refine awp_cond rfl (fun hc => ?_) (fun hc => ?_)
  · try simp only [n1, n2, n3, n4, n5, n6, n7, n8, n9, n10, n11, n12, n13, n14, n15, n16, Fd.rows_len, Fm.rows_len, V.rows_len] at hc
    refine awp_seq ?_
    refine awp_region ?_
    refine al_pure rfl rfl rfl (pure_build rfl Try.underlying25 rfl (fun _ => rfl)) ?_
    refine al_pure rfl rfl rfl (pure_move rfl (fun _ => rfl)) ?_
    refine al_do rfl (does_store rfl rfl rfl rfl rfl rfl rfl) ?_
    refine al_pure rfl rfl rfl (pure_assign rfl (fun _ => rfl)) ?_
    refine al_pure rfl rfl rfl (pure_assign rfl (fun _ => rfl)) ?_
    refine al_nil ?_
    refine awp_ret ?_
    repeat (first | refine thenS_ret ?_ | refine blockS_ret ?_)
    refine ret_ok rfl ?_ trivial
    (rw [decE, if_pos hc]; rfl)
  · try simp only [n1, n2, n3, n4, n5, n6, n7, n8, n9, n10, n11, n12, n13, n14, n15, n16, Fd.rows_len, Fm.rows_len, V.rows_len] at hc
    have he : errE t i = 0 := hc
    rw [decE, if_neg (by omega)]
    refine awp_skip ?_
    refine awp_seq ?_
    refine awp_region ?_
    refine al_pure rfl rfl rfl (pure_move rfl (fun _ => rfl)) ?_
    refine al_pure rfl rfl rfl (pure_move rfl (fun _ => rfl)) ?_
    refine al_pure rfl rfl rfl (pure_move rfl (fun _ => rfl)) ?_
    refine al_pure rfl rfl rfl (pure_move rfl (fun _ => rfl)) ?_
    refine al_lenS rfl rfl rfl rfl rfl (fun _ => rfl) (Try.underlying9) ?_ (fun hh => by simp at hh); intro hlen
    refine al_call rfl rfl rfl rfl rfl rfl (fun _ => rfl) (fun _ => rfl) (rread_spec _ _ _ 0 s.length _ _ _ rfl rfl (by omega) (by omega) (by omega) (errE_fds he).1 (errE_fds he).2) rfl ?_
    refine al_do rfl (does_alloc rfl rfl rfl) ?_
    refine al_do rfl (does_store rfl rfl rfl rfl rfl rfl rfl) ?_
    refine al_nil ?_
    refine awp_sub (s := { t := [(2, _, _), (6, _, _), (10, _, _)], bx := [((.l 10), _), ((.l 6), _)], ow := [] }) (sub_mk (⟨⟨_, rfl, rfl⟩, ⟨⟨_, rfl, rfl⟩, ⟨⟨_, rfl, rfl⟩, trivial⟩⟩⟩) (⟨⟨_, rfl, rfl⟩, ⟨⟨_, rfl, rfl⟩, trivial⟩⟩) trivial) ?_
    refine awp_seq ?_
    refine awp_seq ?_
    refine awp_region ?_
    refine al_pure rfl rfl rfl (pure_fieldPtr rfl (fun _ => rfl) rfl rfl) ?_
    refine al_pure rfl rfl rfl (pure_loadBox rfl (fun _ => rfl) rfl rfl rfl rfl) ?_
    refine al_pure rfl rfl rfl (pure_not rfl (fun _ => rfl)) ?_
    refine al_pure rfl rfl rfl (pure_move rfl (fun _ => rfl)) ?_
    refine al_pure rfl rfl rfl (pure_fieldPtr rfl (fun _ => rfl) rfl rfl) ?_
    refine al_pure rfl rfl rfl (pure_loadBox rfl (fun hh => hh) rfl rfl rfl rfl) ?_
    refine al_pure rfl rfl rfl (pure_move rfl (fun _ => rfl)) ?_
    refine al_pure rfl rfl rfl (pure_lenS rfl (fun hh => hh) (Try.underlying9)) ?_
    refine al_pure rfl rfl rfl (pure_cmp rfl rfl (fun hh => hh) (fun hh => hh) rfl) ?_
    refine al_pure rfl rfl rfl (pure_or rfl rfl (fun _ => rfl) (fun _ hi => gP rfl hi)) ?_
    refine al_nil ?_
    refine awp_sub (s := { t := [(6, _, _), (10, _, _), (33, _, _)], bx := [((.l 10), _), ((.l 6), _)], ow := [] }) (sub_mk (⟨⟨_, rfl, rfl⟩, ⟨⟨_, rfl, rfl⟩, ⟨⟨_, rfl, rfl⟩, trivial⟩⟩⟩) (⟨⟨_, rfl, rfl⟩, ⟨⟨_, rfl, rfl⟩, trivial⟩⟩) trivial) ?_
    refine awp_cond rfl (fun hc2 => ?_) (fun hc2 => ?_)
    · try simp only [n1, n2, n3, n4, n5, n6, n7, n8, n9, n10, n11, n12, n13, n14, n15, n16, Fd.rows_len, Fm.rows_len, V.rows_len] at hc2
      refine awp_seq ?_
      refine awp_drawn' (by kernel_rfl) ?_
      refine dr_pure rfl rfl rfl rfl (pure_build rfl Try.underlying25 rfl (fun _ => rfl)) ?_
      refine dr_pure rfl rfl rfl rfl (pure_fieldPtr rfl (fun _ => rfl) rfl rfl) ?_
      refine dr_load rfl rfl rfl rfl rfl rfl rfl (fun _ => rfl) rfl rfl rfl rfl ?_
      refine dr_store rfl rfl rfl rfl rfl rfl rfl rfl rfl rfl rfl rfl ?_
      refine dr_pure rfl rfl rfl rfl (pure_assign rfl (fun _ => rfl)) ?_
      refine dr_pure rfl rfl rfl rfl (pure_assign rfl (fun _ => rfl)) ?_
      refine dr_nil (by kernel_rfl) ?_
      refine awp_ret ?_
      repeat (first | refine thenS_ret ?_ | refine blockS_ret ?_)
      refine ret_ok rfl ?_ trivial
      (rw [if_pos (by rcases hc2 with h | h; exact .inl h; exact .inr (by omega))]; rfl)
    · try simp only [n1, n2, n3, n4, n5, n6, n7, n8, n9, n10, n11, n12, n13, n14, n15, n16, Fd.rows_len, Fm.rows_len, V.rows_len] at hc2
      refine awp_skip ?_
      refine awp_seq ?_
      refine awp_region ?_
      refine al_pure rfl rfl rfl (pure_fieldPtr rfl (fun _ => rfl) rfl rfl) ?_
      refine al_pure rfl rfl rfl (pure_loadBoxRow rfl (fun _ => rfl) rfl rfl rfl rfl rfl) ?_
      refine al_do rfl (does_store rfl rfl rfl rfl rfl rfl rfl) ?_
      refine al_pure rfl rfl rfl (pure_assign rfl (fun _ => rfl)) ?_
      refine al_pure rfl rfl rfl (pure_assign rfl (fun _ => rfl)) ?_
      refine al_nil ?_
      refine awp_ret ?_
      repeat (first | refine thenS_ret ?_ | refine blockS_ret ?_)
      refine ret_ok rfl ?_ trivial
      (rw [if_neg (by intro h; rcases h with h | h; rw [h] at hc2; exact absurd hc2.1 (by decide); omega)]; rfl)
theorem rPrefix_spec (t : List Fm) (i : Int) (s : List UInt8) (hs : s.length ≤ 100000) : Ctr sys 25 [xtab t, xi i, xs s] [] (xd3 (preE t i s)) none [] := by
  refine spec_intro Try.func25 rfl rfl rfl rfl rfl rfl ?_
  refine awp_seq ?_
  refine awp_region ?_
  refine al_do rfl (does_alloc rfl rfl rfl) ?_
  refine al_pure rfl rfl rfl (pure_assign rfl (fun _ => rfl)) ?_
  refine al_pure rfl rfl rfl (pure_assign rfl (fun _ => rfl)) ?_
  refine al_nil ?_
  refine awp_seq ?_
  refine awp_seq ?_
  refine awp_region ?_
  refine al_pure rfl rfl rfl (pure_move rfl (fun _ => rfl)) ?_
  refine al_pure rfl rfl rfl (pure_move rfl (fun _ => rfl)) ?_
  refine al_call rfl rfl rfl rfl rfl rfl (fun _ => rfl) (fun _ => rfl) (rError_spec _ _) rfl ?_
  refine al_pure rfl rfl rfl (pure_assign rfl (fun _ => rfl)) ?_
  refine al_nil ?_
  refine awp_sub (s := { t := [(0, _, _), (1, _, _), (2, _, _), (6, _, _), (9, _, _)], bx := [((.l 6), _)], ow := [] }) (sub_mk (⟨⟨_, rfl, rfl⟩, ⟨⟨_, rfl, rfl⟩, ⟨⟨_, rfl, rfl⟩, ⟨⟨_, rfl, rfl⟩, ⟨⟨_, rfl, rfl⟩, trivial⟩⟩⟩⟩⟩) (⟨⟨_, rfl, rfl⟩, trivial⟩) trivial) ?_
  refine awp_seq ?_
  refine awp_region ?_
  refine al_pure rfl rfl rfl (pure_move rfl (fun _ => rfl)) ?_
  refine al_pure rfl rfl rfl (pure_cmp rfl rfl (fun _ => rfl) (fun _ => rfl) rfl) ?_
  refine al_nil ?_
  refine awp_cond rfl (fun hc => ?_) (fun hc => ?_)
  · try simp only [n1, n2, n3, n4, n5, n6, n7, n8, n9, n10, n11, n12, n13, n14, n15, n16, Fd.rows_len, Fm.rows_len, V.rows_len] at hc
    refine awp_seq ?_
    refine awp_region ?_
    refine al_pure rfl rfl rfl (pure_build rfl Try.underlying25 rfl (fun _ => rfl)) ?_
    refine al_pure rfl rfl rfl (pure_move rfl (fun _ => rfl)) ?_
    refine al_do rfl (does_store rfl rfl rfl rfl rfl rfl rfl) ?_
    refine al_pure rfl rfl rfl (pure_assign rfl (fun _ => rfl)) ?_
    refine al_pure rfl rfl rfl (pure_assign rfl (fun _ => rfl)) ?_
    refine al_nil ?_
    refine awp_ret ?_
    repeat (first | refine thenS_ret ?_ | refine blockS_ret ?_)
    refine ret_ok rfl ?_ trivial
    (rw [preE, if_pos hc]; rfl)
  · try simp only [n1, n2, n3, n4, n5, n6, n7, n8, n9, n10, n11, n12, n13, n14, n15, n16, Fd.rows_len, Fm.rows_len, V.rows_len] at hc
    have he : errE t i = 0 := hc
    rw [preE, if_neg (by omega)]
    refine awp_skip ?_
    refine awp_seq ?_
    refine awp_region ?_
    refine al_pure rfl rfl rfl (pure_move rfl (fun _ => rfl)) ?_
    refine al_pure rfl rfl rfl (pure_move rfl (fun _ => rfl)) ?_
    refine al_pure rfl rfl rfl (pure_move rfl (fun _ => rfl)) ?_
    refine al_pure rfl rfl rfl (pure_move rfl (fun _ => rfl)) ?_
    refine al_lenS rfl rfl rfl rfl rfl (fun _ => rfl) (Try.underlying9) ?_ (fun hh => by simp at hh); intro hlen
    refine al_call rfl rfl rfl rfl rfl rfl (fun _ => rfl) (fun _ => rfl) (rread_spec _ _ _ 0 s.length _ _ _ rfl rfl (by omega) (by omega) (by omega) (errE_fds he).1 (errE_fds he).2) rfl ?_
    refine al_do rfl (does_alloc rfl rfl rfl) ?_
    refine al_do rfl (does_store rfl rfl rfl rfl rfl rfl rfl) ?_
    refine al_nil ?_
    refine awp_sub (s := { t := [(6, _, _), (10, _, _)], bx := [((.l 10), _), ((.l 6), _)], ow := [] }) (sub_mk (⟨⟨_, rfl, rfl⟩, ⟨⟨_, rfl, rfl⟩, trivial⟩⟩) (⟨⟨_, rfl, rfl⟩, ⟨⟨_, rfl, rfl⟩, trivial⟩⟩) trivial) ?_
    refine awp_seq ?_
    refine awp_seq ?_
    refine awp_region ?_
    refine al_pure rfl rfl rfl (pure_fieldPtr rfl (fun _ => rfl) rfl rfl) ?_
    refine al_pure rfl rfl rfl (pure_loadBox rfl (fun _ => rfl) rfl rfl rfl rfl) ?_
    refine al_pure rfl rfl rfl (pure_not rfl (fun _ => rfl)) ?_
    refine al_nil ?_
    refine awp_cond rfl (fun hc2 => ?_) (fun hc2 => ?_)
    · try simp only [n1, n2, n3, n4, n5, n6, n7, n8, n9, n10, n11, n12, n13, n14, n15, n16, Fd.rows_len, Fm.rows_len, V.rows_len] at hc2
      refine awp_seq ?_
      refine awp_drawn' (by kernel_rfl) ?_
      refine dr_pure rfl rfl rfl rfl (pure_build rfl Try.underlying25 rfl (fun _ => rfl)) ?_
      refine dr_pure rfl rfl rfl rfl (pure_fieldPtr rfl (fun _ => rfl) rfl rfl) ?_
      refine dr_load rfl rfl rfl rfl rfl rfl rfl (fun _ => rfl) rfl rfl rfl rfl ?_
      refine dr_store rfl rfl rfl rfl rfl rfl rfl rfl rfl rfl rfl rfl ?_
      refine dr_pure rfl rfl rfl rfl (pure_assign rfl (fun _ => rfl)) ?_
      refine dr_pure rfl rfl rfl rfl (pure_assign rfl (fun _ => rfl)) ?_
      refine dr_nil (by kernel_rfl) ?_
      refine awp_ret ?_
      repeat (first | refine thenS_ret ?_ | refine blockS_ret ?_)
      refine ret_ok rfl ?_ trivial
      (rw [if_pos hc2]; rfl)
    · try simp only [n1, n2, n3, n4, n5, n6, n7, n8, n9, n10, n11, n12, n13, n14, n15, n16, Fd.rows_len, Fm.rows_len, V.rows_len] at hc2
      refine awp_skip ?_
      refine awp_seq ?_
      refine awp_drawn' (by kernel_rfl) ?_
      refine dr_pure rfl rfl rfl rfl (pure_fieldPtr rfl (fun _ => rfl) rfl rfl) ?_
      refine dr_loadRow rfl rfl rfl rfl rfl rfl rfl (fun _ => rfl) rfl rfl rfl rfl rfl ?_
      refine dr_pure rfl rfl rfl rfl (pure_fieldPtr rfl (fun _ => rfl) rfl rfl) ?_
      refine dr_load rfl rfl rfl rfl rfl rfl rfl (fun _ => rfl) rfl rfl rfl rfl ?_
      refine dr_store rfl rfl rfl rfl rfl rfl rfl rfl rfl rfl rfl rfl ?_
      refine dr_pure rfl rfl rfl rfl (pure_assign rfl (fun _ => rfl)) ?_
      refine dr_pure rfl rfl rfl rfl (pure_assign rfl (fun _ => rfl)) ?_
      refine dr_nil (by kernel_rfl) ?_
      refine awp_ret ?_
      repeat (first | refine thenS_ret ?_ | refine blockS_ret ?_)
      refine ret_ok rfl ?_ trivial
      (rw [if_neg (by rw [hc2]; simp)]; rfl)
def whichL (t : List Fm) (s : List UInt8) : Nat → Nat → List Int → List Int
  | 0, _, out => out
  | n + 1, k, out => whichL t s n (k + 1) (if (decE t k s).2.2 = 0 then out ++ [(k : Int)] else out)
def whichE (t : List Fm) (s : List UInt8) : List Int := whichL t s t.length 0 []
theorem rWhich_spec (t : List Fm) (s : List UInt8) (hs : s.length ≤ 100000) (ht : t.length ≤ 1000) : Ctr sys 28 [xtab t, xs s] [] (xis (whichE t s)) none [] := by
  have hrl := Fm.rows_len t
  refine spec_intro Try.func28 rfl rfl rfl rfl rfl rfl ?_
  refine awp_seq ?_
  refine awp_region ?_
  refine al_do rfl (does_nil (.inr rfl) rfl rfl) ?_
  refine al_nil ?_
  refine awp_seq ?_
  refine awp_region ?_
  refine al_do rfl (does_nil (.inr rfl) rfl rfl) ?_
  refine al_nil ?_
  refine awp_seq ?_
  refine awp_seq ?_
  refine awp_region ?_
  refine al_pure rfl rfl rfl (pure_assign rfl (fun _ => rfl)) ?_
  refine al_nil ?_
  refine awp_block ?_
  refine awp_for (ι := Nat × List Int) { t := [(0, _, _), (1, _, _)], bx := [], ow := [((.t 5), _)] } (fun p => [(6, true, xi (p.1 : Int)), (5, true, xis p.2)]) (fun p => []) (fun p => p.1 ≤ t.length ∧ p.2.length ≤ p.1 ∧ whichL t s (t.length - p.1) p.1 p.2 = whichE t s) (fun p => t.length - p.1) ((0, [])) (⟨by simp, by simp, rfl⟩) (sub_mk (⟨⟨_, rfl, rfl⟩, ⟨⟨_, rfl, rfl⟩, ⟨⟨_, rfl, rfl⟩, ⟨⟨_, rfl, rfl⟩, trivial⟩⟩⟩⟩) trivial (⟨rfl, trivial⟩)) ?_
  intro p hok
  dsimp only [List.cons_append, List.nil_append] at *
  obtain ⟨k, out⟩ := p
  dsimp only at hok ⊢
  obtain ⟨hk, hvk, hinv⟩ := hok
  refine awp_seq ?_
  refine awp_seq ?_
  refine awp_region ?_
  refine al_pure rfl rfl rfl (pure_move rfl (fun _ => rfl)) ?_
  refine al_pure rfl rfl rfl (pure_move rfl (fun _ => rfl)) ?_
  refine al_lenSl rfl rfl rfl rfl rfl (fun _ => rfl) rfl rfl ?_ (fun hh => by simp at hh); intro hlen
  refine al_pure rfl rfl rfl (pure_cmp rfl rfl (fun _ => rfl) (fun _ => rfl) rfl) ?_
  refine al_nil ?_
  refine awp_cond rfl (fun hc => ?_) (fun hc => ?_)
  · try simp only [n1, n2, n3, n4, n5, n6, n7, n8, n9, n10, n11, n12, n13, n14, n15, n16, Fd.rows_len, Fm.rows_len, V.rows_len] at hc
    rw [show t.length - k = (t.length - (k + 1)) + 1 by omega, whichL] at hinv
    refine awp_skip ?_
    refine awp_seq ?_
    refine awp_block ?_
    refine awp_seq ?_
    refine awp_region ?_
    refine al_pure rfl rfl rfl (pure_move rfl (fun _ => rfl)) ?_
    refine al_pure rfl rfl rfl (pure_move rfl (fun _ => rfl)) ?_
    refine al_pure rfl rfl rfl (pure_move rfl (fun _ => rfl)) ?_
    refine al_call rfl rfl rfl rfl rfl rfl (fun _ => rfl) (fun _ => rfl) (rDecode_spec _ _ _ hs) rfl ?_
    refine al_pure rfl rfl rfl (pure_move rfl (fun _ => rfl)) ?_
    refine al_pure rfl rfl rfl (pure_extract rfl (fun _ => rfl) rfl) ?_
    refine al_pure rfl rfl rfl (pure_extract rfl (fun _ => rfl) rfl) ?_
    refine al_pure rfl rfl rfl (pure_extract rfl (fun _ => rfl) rfl) ?_
    refine al_sub (s := { t := [(0, _, _), (1, _, _), (5, _, _), (6, _, _), (21, _, _), (22, _, _), (23, _, _)], bx := [], ow := [((.t 5), _)] }) (sub_mk (⟨⟨_, rfl, rfl⟩, ⟨⟨_, rfl, rfl⟩, ⟨⟨_, rfl, rfl⟩, ⟨⟨_, rfl, rfl⟩, ⟨⟨_, rfl, rfl⟩, ⟨⟨_, rfl, rfl⟩, ⟨⟨_, rfl, rfl⟩, trivial⟩⟩⟩⟩⟩⟩⟩) trivial (⟨rfl, trivial⟩)) ?_
    refine al_do rfl (does_alloc rfl rfl rfl) ?_
    refine al_do rfl (does_store rfl rfl rfl rfl rfl rfl rfl) ?_
    refine al_pure rfl rfl rfl (pure_assign rfl (fun _ => rfl)) ?_
    refine al_pure rfl rfl rfl (pure_assign rfl (fun _ => rfl)) ?_
    refine al_nil ?_
    refine awp_seq ?_
    refine awp_region ?_
    refine al_pure rfl rfl rfl (pure_move rfl (fun _ => rfl)) ?_
    refine al_pure rfl rfl rfl (pure_cmp rfl rfl (fun _ => rfl) (fun _ => rfl) rfl) ?_
    refine al_nil ?_
    refine awp_sub (s := { t := [(0, _, _), (1, _, _), (5, _, _), (6, _, _), (25, _, _)], bx := [], ow := [((.t 5), _)] }) (sub_mk (⟨⟨_, rfl, rfl⟩, ⟨⟨_, rfl, rfl⟩, ⟨⟨_, rfl, rfl⟩, ⟨⟨_, rfl, rfl⟩, ⟨⟨_, rfl, rfl⟩, trivial⟩⟩⟩⟩⟩) trivial (⟨rfl, trivial⟩)) ?_
    refine awp_cond rfl (fun hc2 => ?_) (fun hc2 => ?_)
    · try simp only [n1, n2, n3, n4, n5, n6, n7, n8, n9, n10, n11, n12, n13, n14, n15, n16, Fd.rows_len, Fm.rows_len, V.rows_len] at hc2
      rw [if_pos hc2] at hinv
      refine awp_region ?_
      refine al_do rfl (does_take (.inl rfl) rfl rfl rfl) ?_
      refine al_pure rfl rfl rfl (pure_move rfl (fun _ => rfl)) ?_
      refine al_buildSlice (xs := [_]) rfl rfl rfl rfl rfl rfl rfl rfl rfl (fun _ => rfl) rfl ?_
      refine al_do rfl (does_append rfl rfl rfl rfl rfl rfl rfl (by simp [intR_len]; omega) (by simp [intR_len]; omega)) ?_
      refine al_do rfl (does_take (.inr rfl) rfl rfl rfl) ?_
      refine al_nil ?_
      refine awp_sub (s := { t := [(0, _, _), (1, _, _), (5, _, _), (6, _, _)], bx := [], ow := [((.t 5), _)] }) (sub_mk (⟨⟨_, rfl, rfl⟩, ⟨⟨_, rfl, rfl⟩, ⟨⟨_, rfl, rfl⟩, ⟨⟨_, rfl, rfl⟩, trivial⟩⟩⟩⟩) trivial (⟨rfl, trivial⟩)) ?_
      refine awp_region ?_
      refine al_pure rfl rfl rfl (pure_move rfl (fun _ => rfl)) ?_
      refine al_pure rfl rfl rfl (pure_arith rfl rfl (fun _ => rfl) (fun _ => rfl) rfl (IntWalk.i64_in _ (by omega))) ?_
      refine al_pure rfl rfl rfl (pure_assign rfl (fun _ => rfl)) ?_
      refine al_nil ?_
      refine ⟨(k + 1, out ++ [(k : Int)]), ?_, ?_, sub_mk (⟨⟨_, rfl, ?_⟩, ⟨⟨_, rfl, ?_⟩, ⟨⟨_, rfl, rfl⟩, ⟨⟨_, rfl, rfl⟩, trivial⟩⟩⟩⟩) trivial (⟨rfl, trivial⟩)⟩
      · exact ⟨by dsimp only; omega, by simp; omega, hinv⟩
      · dsimp only; omega
      · rfl
      · exact tx (xis_snoc _ _)
    · try simp only [n1, n2, n3, n4, n5, n6, n7, n8, n9, n10, n11, n12, n13, n14, n15, n16, Fd.rows_len, Fm.rows_len, V.rows_len] at hc2
      rw [if_neg hc2] at hinv
      refine awp_skip ?_
      refine awp_region ?_
      refine al_pure rfl rfl rfl (pure_move rfl (fun _ => rfl)) ?_
      refine al_pure rfl rfl rfl (pure_arith rfl rfl (fun _ => rfl) (fun _ => rfl) rfl (IntWalk.i64_in _ (by omega))) ?_
      refine al_pure rfl rfl rfl (pure_assign rfl (fun _ => rfl)) ?_
      refine al_nil ?_
      refine ⟨(k + 1, out), ?_, ?_, sub_mk (⟨⟨_, rfl, ?_⟩, ⟨⟨_, rfl, ?_⟩, ⟨⟨_, rfl, rfl⟩, ⟨⟨_, rfl, rfl⟩, trivial⟩⟩⟩⟩) trivial (⟨rfl, trivial⟩)⟩
      · exact ⟨by dsimp only; omega, by dsimp only; omega, hinv⟩
      · dsimp only; omega
      · rfl
      · rfl
  · try simp only [n1, n2, n3, n4, n5, n6, n7, n8, n9, n10, n11, n12, n13, n14, n15, n16, Fd.rows_len, Fm.rows_len, V.rows_len] at hc
    rw [show t.length - k = 0 by omega, whichL] at hinv
    refine awp_exit ?_
    repeat (first | refine thenS_exit ?_ | refine blockS_hit ?_ | refine blockS_miss rfl ?_)
    refine awp_seq ?_
    refine awp_region ?_
    refine al_do rfl (does_take (.inl rfl) rfl rfl rfl) ?_
    refine al_do rfl (does_take (.inr rfl) rfl rfl rfl) ?_
    refine al_nil ?_
    refine awp_ret ?_
    repeat (first | refine thenS_ret ?_ | refine blockS_ret ?_)
    refine ret_ok rfl ?_ trivial
    (rw [← hinv]; rfl)
end Go.Proofs.Ytgjclggjkhapfaa
/- Contracts: Decode, Prefix, Which, as codec does. -/
set_option linter.unusedVariables false
set_option linter.unusedSimpArgs false
namespace Go.Proofs.Ytgjclggjkhapfaa
open Go Go.Abs
theorem cDecode_spec (t : List Fm) (i : Int) (s : List UInt8) (hs : s.length ≤ 100000) : Ctr sys 17 [xtab t, xi i, xs s] [] (xd3 (decE t i s)) none [] := by
  have hb := boundsE_err t i
  refine spec_intro Try.func17 rfl rfl rfl rfl rfl rfl ?_
  refine awp_seq ?_
  refine awp_region ?_
  refine al_do rfl (does_alloc rfl rfl rfl) ?_
  refine al_pure rfl rfl rfl (pure_assign rfl (fun _ => rfl)) ?_
  refine al_pure rfl rfl rfl (pure_assign rfl (fun _ => rfl)) ?_
  refine al_nil ?_
  refine awp_seq ?_
  refine awp_seq ?_
  refine awp_region ?_
  refine al_pure rfl rfl rfl (pure_move rfl (fun _ => rfl)) ?_
  refine al_pure rfl rfl rfl (pure_move rfl (fun _ => rfl)) ?_
  refine al_call rfl rfl rfl rfl rfl rfl (fun _ => rfl) (fun _ => rfl) (fBounds_spec _ _) rfl ?_
  refine al_pure rfl rfl rfl (pure_move rfl (fun _ => rfl)) ?_
  refine al_pure rfl rfl rfl (pure_extract rfl (fun _ => rfl) rfl) ?_
  refine al_pure rfl rfl rfl (pure_extract rfl (fun _ => rfl) rfl) ?_
  refine al_pure rfl rfl rfl (pure_extract rfl (fun _ => rfl) rfl) ?_
  refine al_pure rfl rfl rfl (pure_assign rfl (fun _ => rfl)) ?_
  refine al_pure rfl rfl rfl (pure_assign rfl (fun _ => rfl)) ?_
  refine al_sub (s := { t := [(0, _, _), (1, _, _), (2, _, _), (6, _, _), (20, _, _)], bx := [((.l 6), _)], ow := [] }) (sub_mk (⟨⟨_, rfl, rfl⟩, ⟨⟨_, rfl, rfl⟩, ⟨⟨_, rfl, rfl⟩, ⟨⟨_, rfl, rfl⟩, ⟨⟨_, rfl, rfl⟩, trivial⟩⟩⟩⟩⟩) (⟨⟨_, rfl, rfl⟩, trivial⟩) trivial) ?_
  refine al_pure rfl rfl rfl (pure_assign rfl (fun _ => rfl)) ?_
  refine al_nil ?_
  refine awp_seq ?_
  refine awp_region ?_
  refine al_pure rfl rfl rfl (pure_move rfl (fun _ => rfl)) ?_
  refine al_pure rfl rfl rfl (pure_cmp rfl rfl (fun _ => rfl) (fun _ => rfl) rfl) ?_
  refine al_nil ?_
  refine awp_cond rfl (fun hc => ?_) (fun hc => ?_)
  · try simp only [n1, n2, n3, n4, n5, n6, n7, n8, n9, n10, n11, n12, n13, n14, n15, n16, Fd.rows_len, Fm.rows_len, V.rows_len] at hc
    refine awp_seq ?_
    refine awp_region ?_
    refine al_pure rfl rfl rfl (pure_build rfl Try.underlying25 rfl (fun _ => rfl)) ?_
    refine al_pure rfl rfl rfl (pure_move rfl (fun _ => rfl)) ?_
    refine al_do rfl (does_store rfl rfl rfl rfl rfl rfl rfl) ?_
    refine al_pure rfl rfl rfl (pure_assign rfl (fun _ => rfl)) ?_
    refine al_pure rfl rfl rfl (pure_assign rfl (fun _ => rfl)) ?_
    refine al_nil ?_
    refine awp_ret ?_
    repeat (first | refine thenS_ret ?_ | refine blockS_ret ?_)
    refine ret_ok rfl ?_ trivial
    (rw [decE, if_pos (by omega), hb]; rfl)
  · try simp only [n1, n2, n3, n4, n5, n6, n7, n8, n9, n10, n11, n12, n13, n14, n15, n16, Fd.rows_len, Fm.rows_len, V.rows_len] at hc
    have he : errE t i = 0 := by omega
    rw [decE, if_neg (by omega)]
    refine awp_skip ?_
    refine awp_seq ?_
    refine awp_region ?_
    refine al_pure rfl rfl rfl (pure_move rfl (fun _ => rfl)) ?_
    refine al_pure rfl rfl rfl (pure_move rfl (fun _ => rfl)) ?_
    refine al_pure rfl rfl rfl (pure_build rfl Try.underlying67 rfl (fun _ => rfl)) ?_
    refine al_do rfl (does_box rfl rfl rfl rfl) ?_
    refine al_pure rfl rfl rfl (pure_assign rfl (fun _ => rfl)) ?_
    refine al_nil ?_
    refine awp_sub (s := { t := [(1, _, _), (2, _, _), (6, _, _), (12, _, _)], bx := [((.l 28), _), ((.l 6), _)], ow := [] }) (sub_mk (⟨⟨_, rfl, rfl⟩, ⟨⟨_, rfl, rfl⟩, ⟨⟨_, rfl, rfl⟩, ⟨⟨_, rfl, rfl⟩, trivial⟩⟩⟩⟩) (⟨⟨_, rfl, rfl⟩, ⟨⟨_, rfl, rfl⟩, trivial⟩⟩) trivial) ?_
    refine awp_seq ?_
    refine awp_region ?_
    refine al_pure rfl rfl rfl (pure_move rfl (fun _ => rfl)) ?_
    refine al_pure rfl rfl rfl (pure_move rfl (fun _ => rfl)) ?_
    refine al_pure rfl rfl rfl (pure_move rfl (fun _ => rfl)) ?_
    refine al_lenS rfl rfl rfl rfl rfl (fun _ => rfl) (Try.underlying9) ?_ (fun hh => by simp at hh); intro hlen
    refine al_callB1 (.l 28) rfl rfl rfl rfl rfl rfl (cread_spec t i s 0 s.length _ _ _ rfl rfl (by omega) (by omega) hs (errE_fds he).1 (errE_fds he).2) rfl (by rfl) (by rfl) rfl rfl rfl ?_
    refine al_do rfl (does_alloc rfl rfl rfl) ?_
    refine al_do rfl (does_store rfl rfl rfl rfl rfl rfl rfl) ?_
    refine al_nil ?_
    refine awp_sub (s := { t := [(2, _, _), (6, _, _), (12, _, _), (13, _, _)], bx := [((.l 13), _), ((.l 28), _), ((.l 6), _)], ow := [] }) (sub_mk (⟨⟨_, rfl, rfl⟩, ⟨⟨_, rfl, rfl⟩, ⟨⟨_, rfl, rfl⟩, ⟨⟨_, rfl, rfl⟩, trivial⟩⟩⟩⟩) (⟨⟨_, rfl, rfl⟩, ⟨⟨_, rfl, rfl⟩, ⟨⟨_, rfl, rfl⟩, trivial⟩⟩⟩) trivial) ?_
    refine awp_seq ?_
    refine awp_seq ?_
    refine awp_region ?_
    refine al_pure rfl rfl rfl (pure_move rfl (fun _ => rfl)) ?_
    refine al_pure rfl rfl rfl (pure_nilCheck rfl (fun _ => rfl)) ?_
    refine al_pure rfl rfl rfl (pure_fieldPtr rfl (fun _ => rfl) rfl rfl) ?_
    refine al_pure rfl rfl rfl (pure_loadBox rfl (fun _ => rfl) rfl rfl rfl rfl) ?_
    refine al_pure rfl rfl rfl (pure_move rfl (fun _ => rfl)) ?_
    refine al_pure rfl rfl rfl (pure_move rfl (fun _ => rfl)) ?_
    refine al_pure rfl rfl rfl (pure_nilCheck rfl (fun hh => hh)) ?_
    refine al_pure rfl rfl rfl (pure_fieldPtr rfl (fun hh => hh) rfl rfl) ?_
    refine al_pure rfl rfl rfl (pure_loadBox rfl (fun hh => hh) rfl rfl rfl rfl) ?_
    refine al_pure rfl rfl rfl (pure_move rfl (fun _ => rfl)) ?_
    refine al_pure rfl rfl rfl (pure_lenS rfl (fun hh => hh) (Try.underlying9)) ?_
    refine al_pure rfl rfl rfl (pure_cmp rfl rfl (fun hh => hh) (fun hh => hh) rfl) ?_
    refine al_sub (s := { t := [(6, _, _), (12, _, _), (13, _, _), (38, _, _), (45, _, _)], bx := [((.l 13), _), ((.l 28), _), ((.l 6), _)], ow := [] }) (sub_mk (⟨⟨_, rfl, rfl⟩, ⟨⟨_, rfl, rfl⟩, ⟨⟨_, rfl, rfl⟩, ⟨⟨_, rfl, rfl⟩, ⟨⟨_, rfl, rfl⟩, trivial⟩⟩⟩⟩⟩) (⟨⟨_, rfl, rfl⟩, ⟨⟨_, rfl, rfl⟩, ⟨⟨_, rfl, rfl⟩, trivial⟩⟩⟩) trivial) ?_
    refine al_pure rfl rfl rfl (pure_or rfl rfl (fun _ => rfl) (fun _ hi => gP rfl hi)) ?_
    refine al_nil ?_
    refine awp_cond rfl (fun hc2 => ?_) (fun hc2 => ?_)
    · try simp only [n1, n2, n3, n4, n5, n6, n7, n8, n9, n10, n11, n12, n13, n14, n15, n16, Fd.rows_len, Fm.rows_len, V.rows_len] at hc2
      refine awp_seq ?_
      refine awp_drawn' (by kernel_rfl) ?_
      refine dr_pure rfl rfl rfl rfl (pure_build rfl Try.underlying25 rfl (fun _ => rfl)) ?_
      refine dr_pure rfl rfl rfl rfl (pure_move rfl (fun _ => rfl)) ?_
      refine dr_pure rfl rfl rfl rfl (pure_nilCheck rfl (fun _ => rfl)) ?_
      refine dr_pure rfl rfl rfl rfl (pure_fieldPtr rfl (fun _ => rfl) rfl rfl) ?_
      refine dr_load rfl rfl rfl rfl rfl rfl rfl (fun _ => rfl) rfl rfl rfl rfl ?_
      refine dr_store rfl rfl rfl rfl rfl rfl rfl rfl rfl rfl rfl rfl ?_
      refine dr_pure rfl rfl rfl rfl (pure_assign rfl (fun _ => rfl)) ?_
      refine dr_pure rfl rfl rfl rfl (pure_assign rfl (fun _ => rfl)) ?_
      refine dr_nil (by kernel_rfl) ?_
      refine awp_ret ?_
      repeat (first | refine thenS_ret ?_ | refine blockS_ret ?_)
      refine ret_ok rfl ?_ trivial
      (rw [if_pos (by rcases hc2 with h | h; exact .inl h; exact .inr (by omega))]; rfl)
    · try simp only [n1, n2, n3, n4, n5, n6, n7, n8, n9, n10, n11, n12, n13, n14, n15, n16, Fd.rows_len, Fm.rows_len, V.rows_len] at hc2
      refine awp_skip ?_
      refine awp_seq ?_
      refine awp_region ?_
      refine al_pure rfl rfl rfl (pure_loadBoxRow rfl (fun _ => rfl) rfl rfl rfl rfl rfl) ?_
      refine al_do rfl (does_store rfl rfl rfl rfl rfl rfl rfl) ?_
      refine al_pure rfl rfl rfl (pure_assign rfl (fun _ => rfl)) ?_
      refine al_pure rfl rfl rfl (pure_assign rfl (fun _ => rfl)) ?_
      refine al_nil ?_
      refine awp_ret ?_
      repeat (first | refine thenS_ret ?_ | refine blockS_ret ?_)
      refine ret_ok rfl ?_ trivial
      (rw [if_neg (by intro h; rcases h with h | h; rw [h] at hc2; exact absurd hc2.1 (by decide); omega)]; rfl)
theorem cPrefix_spec (t : List Fm) (i : Int) (s : List UInt8) (hs : s.length ≤ 100000) : Ctr sys 24 [xtab t, xi i, xs s] [] (xd3 (preE t i s)) none [] := by
  have hb := boundsE_err t i
  refine spec_intro Try.func24 rfl rfl rfl rfl rfl rfl ?_
  refine awp_seq ?_
  refine awp_region ?_
  refine al_do rfl (does_alloc rfl rfl rfl) ?_
  refine al_pure rfl rfl rfl (pure_assign rfl (fun _ => rfl)) ?_
  refine al_pure rfl rfl rfl (pure_assign rfl (fun _ => rfl)) ?_
  refine al_nil ?_
  refine awp_seq ?_
  refine awp_seq ?_
  refine awp_region ?_
  refine al_pure rfl rfl rfl (pure_move rfl (fun _ => rfl)) ?_
  refine al_pure rfl rfl rfl (pure_move rfl (fun _ => rfl)) ?_
  refine al_call rfl rfl rfl rfl rfl rfl (fun _ => rfl) (fun _ => rfl) (fBounds_spec _ _) rfl ?_
  refine al_pure rfl rfl rfl (pure_move rfl (fun _ => rfl)) ?_
  refine al_pure rfl rfl rfl (pure_extract rfl (fun _ => rfl) rfl) ?_
  refine al_pure rfl rfl rfl (pure_extract rfl (fun _ => rfl) rfl) ?_
  refine al_pure rfl rfl rfl (pure_extract rfl (fun _ => rfl) rfl) ?_
  refine al_pure rfl rfl rfl (pure_assign rfl (fun _ => rfl)) ?_
  refine al_pure rfl rfl rfl (pure_assign rfl (fun _ => rfl)) ?_
  refine al_sub (s := { t := [(0, _, _), (1, _, _), (2, _, _), (6, _, _), (20, _, _)], bx := [((.l 6), _)], ow := [] }) (sub_mk (⟨⟨_, rfl, rfl⟩, ⟨⟨_, rfl, rfl⟩, ⟨⟨_, rfl, rfl⟩, ⟨⟨_, rfl, rfl⟩, ⟨⟨_, rfl, rfl⟩, trivial⟩⟩⟩⟩⟩) (⟨⟨_, rfl, rfl⟩, trivial⟩) trivial) ?_
  refine al_pure rfl rfl rfl (pure_assign rfl (fun _ => rfl)) ?_
  refine al_nil ?_
  refine awp_seq ?_
  refine awp_region ?_
  refine al_pure rfl rfl rfl (pure_move rfl (fun _ => rfl)) ?_
  refine al_pure rfl rfl rfl (pure_cmp rfl rfl (fun _ => rfl) (fun _ => rfl) rfl) ?_
  refine al_nil ?_
  refine awp_cond rfl (fun hc => ?_) (fun hc => ?_)
  · try simp only [n1, n2, n3, n4, n5, n6, n7, n8, n9, n10, n11, n12, n13, n14, n15, n16, Fd.rows_len, Fm.rows_len, V.rows_len] at hc
    refine awp_seq ?_
    refine awp_region ?_
    refine al_pure rfl rfl rfl (pure_build rfl Try.underlying25 rfl (fun _ => rfl)) ?_
    refine al_pure rfl rfl rfl (pure_move rfl (fun _ => rfl)) ?_
    refine al_do rfl (does_store rfl rfl rfl rfl rfl rfl rfl) ?_
    refine al_pure rfl rfl rfl (pure_assign rfl (fun _ => rfl)) ?_
    refine al_pure rfl rfl rfl (pure_assign rfl (fun _ => rfl)) ?_
    refine al_nil ?_
    refine awp_ret ?_
    repeat (first | refine thenS_ret ?_ | refine blockS_ret ?_)
    refine ret_ok rfl ?_ trivial
    (rw [preE, if_pos (by omega), hb]; rfl)
  · try simp only [n1, n2, n3, n4, n5, n6, n7, n8, n9, n10, n11, n12, n13, n14, n15, n16, Fd.rows_len, Fm.rows_len, V.rows_len] at hc
    have he : errE t i = 0 := by omega
    rw [preE, if_neg (by omega)]
    refine awp_skip ?_
    refine awp_seq ?_
    refine awp_region ?_
    refine al_pure rfl rfl rfl (pure_move rfl (fun _ => rfl)) ?_
    refine al_pure rfl rfl rfl (pure_move rfl (fun _ => rfl)) ?_
    refine al_pure rfl rfl rfl (pure_build rfl Try.underlying67 rfl (fun _ => rfl)) ?_
    refine al_do rfl (does_box rfl rfl rfl rfl) ?_
    refine al_pure rfl rfl rfl (pure_assign rfl (fun _ => rfl)) ?_
    refine al_nil ?_
    refine awp_sub (s := { t := [(1, _, _), (2, _, _), (6, _, _), (12, _, _)], bx := [((.l 28), _), ((.l 6), _)], ow := [] }) (sub_mk (⟨⟨_, rfl, rfl⟩, ⟨⟨_, rfl, rfl⟩, ⟨⟨_, rfl, rfl⟩, ⟨⟨_, rfl, rfl⟩, trivial⟩⟩⟩⟩) (⟨⟨_, rfl, rfl⟩, ⟨⟨_, rfl, rfl⟩, trivial⟩⟩) trivial) ?_
    refine awp_seq ?_
    refine awp_region ?_
    refine al_pure rfl rfl rfl (pure_move rfl (fun _ => rfl)) ?_
    refine al_pure rfl rfl rfl (pure_move rfl (fun _ => rfl)) ?_
    refine al_pure rfl rfl rfl (pure_move rfl (fun _ => rfl)) ?_
    refine al_lenS rfl rfl rfl rfl rfl (fun _ => rfl) (Try.underlying9) ?_ (fun hh => by simp at hh); intro hlen
    refine al_callB1 (.l 28) rfl rfl rfl rfl rfl rfl (cread_spec t i s 0 s.length _ _ _ rfl rfl (by omega) (by omega) hs (errE_fds he).1 (errE_fds he).2) rfl (by rfl) (by rfl) rfl rfl rfl ?_
    refine al_do rfl (does_alloc rfl rfl rfl) ?_
    refine al_do rfl (does_store rfl rfl rfl rfl rfl rfl rfl) ?_
    refine al_nil ?_
    refine awp_sub (s := { t := [(6, _, _), (12, _, _), (13, _, _)], bx := [((.l 13), _), ((.l 28), _), ((.l 6), _)], ow := [] }) (sub_mk (⟨⟨_, rfl, rfl⟩, ⟨⟨_, rfl, rfl⟩, ⟨⟨_, rfl, rfl⟩, trivial⟩⟩⟩) (⟨⟨_, rfl, rfl⟩, ⟨⟨_, rfl, rfl⟩, ⟨⟨_, rfl, rfl⟩, trivial⟩⟩⟩) trivial) ?_
    refine awp_seq ?_
    refine awp_seq ?_
    refine awp_region ?_
    refine al_pure rfl rfl rfl (pure_move rfl (fun _ => rfl)) ?_
    refine al_pure rfl rfl rfl (pure_nilCheck rfl (fun _ => rfl)) ?_
    refine al_pure rfl rfl rfl (pure_fieldPtr rfl (fun _ => rfl) rfl rfl) ?_
    refine al_pure rfl rfl rfl (pure_loadBox rfl (fun _ => rfl) rfl rfl rfl rfl) ?_
    refine al_nil ?_
    refine awp_cond rfl (fun hc2 => ?_) (fun hc2 => ?_)
    · try simp only [n1, n2, n3, n4, n5, n6, n7, n8, n9, n10, n11, n12, n13, n14, n15, n16, Fd.rows_len, Fm.rows_len, V.rows_len] at hc2
      refine awp_seq ?_
      refine awp_drawn' (by kernel_rfl) ?_
      refine dr_pure rfl rfl rfl rfl (pure_build rfl Try.underlying25 rfl (fun _ => rfl)) ?_
      refine dr_pure rfl rfl rfl rfl (pure_move rfl (fun _ => rfl)) ?_
      refine dr_pure rfl rfl rfl rfl (pure_nilCheck rfl (fun _ => rfl)) ?_
      refine dr_pure rfl rfl rfl rfl (pure_fieldPtr rfl (fun _ => rfl) rfl rfl) ?_
      refine dr_load rfl rfl rfl rfl rfl rfl rfl (fun _ => rfl) rfl rfl rfl rfl ?_
      refine dr_store rfl rfl rfl rfl rfl rfl rfl rfl rfl rfl rfl rfl ?_
      refine dr_pure rfl rfl rfl rfl (pure_assign rfl (fun _ => rfl)) ?_
      refine dr_pure rfl rfl rfl rfl (pure_assign rfl (fun _ => rfl)) ?_
      refine dr_nil (by kernel_rfl) ?_
      refine awp_ret ?_
      repeat (first | refine thenS_ret ?_ | refine blockS_ret ?_)
      refine ret_ok rfl ?_ trivial
      (rw [if_pos hc2]; rfl)
    · try simp only [n1, n2, n3, n4, n5, n6, n7, n8, n9, n10, n11, n12, n13, n14, n15, n16, Fd.rows_len, Fm.rows_len, V.rows_len] at hc2
      refine awp_skip ?_
      refine awp_seq ?_
      refine awp_drawn' (by kernel_rfl) ?_
      refine dr_loadRow rfl rfl rfl rfl rfl rfl rfl (fun _ => rfl) rfl rfl rfl rfl rfl ?_
      refine dr_pure rfl rfl rfl rfl (pure_move rfl (fun _ => rfl)) ?_
      refine dr_pure rfl rfl rfl rfl (pure_nilCheck rfl (fun _ => rfl)) ?_
      refine dr_pure rfl rfl rfl rfl (pure_fieldPtr rfl (fun _ => rfl) rfl rfl) ?_
      refine dr_load rfl rfl rfl rfl rfl rfl rfl (fun _ => rfl) rfl rfl rfl rfl ?_
      refine dr_store rfl rfl rfl rfl rfl rfl rfl rfl rfl rfl rfl rfl ?_
      refine dr_pure rfl rfl rfl rfl (pure_assign rfl (fun _ => rfl)) ?_
      refine dr_pure rfl rfl rfl rfl (pure_assign rfl (fun _ => rfl)) ?_
      refine dr_nil (by kernel_rfl) ?_
      refine awp_ret ?_
      repeat (first | refine thenS_ret ?_ | refine blockS_ret ?_)
      refine ret_ok rfl ?_ trivial
      (rw [if_neg (by rw [hc2]; simp)]; rfl)
theorem cWhich_spec (t : List Fm) (s : List UInt8) (hs : s.length ≤ 100000) (ht : t.length ≤ 1000) : Ctr sys 27 [xtab t, xs s] [] (xis (whichE t s)) none [] := by
  have hrl := Fm.rows_len t
  refine spec_intro Try.func27 rfl rfl rfl rfl rfl rfl ?_
  refine awp_seq ?_
  refine awp_region ?_
  refine al_do rfl (does_nil (.inr rfl) rfl rfl) ?_
  refine al_nil ?_
  refine awp_seq ?_
  refine awp_region ?_
  refine al_do rfl (does_nil (.inr rfl) rfl rfl) ?_
  refine al_nil ?_
  refine awp_seq ?_
  refine awp_seq ?_
  refine awp_region ?_
  refine al_pure rfl rfl rfl (pure_move rfl (fun _ => rfl)) ?_
  refine al_lenSl rfl rfl rfl rfl rfl (fun _ => rfl) rfl rfl ?_ (fun hh => by simp at hh); intro hlen
  refine al_pure rfl rfl rfl (pure_move rfl (fun _ => rfl)) ?_
  refine al_nil ?_
  refine awp_sub (s := { t := [(0, _, _), (1, _, _), (5, _, _), (11, _, _), (12, _, _)], bx := [], ow := [((.t 5), _)] }) (sub_mk (⟨⟨_, rfl, rfl⟩, ⟨⟨_, rfl, rfl⟩, ⟨⟨_, rfl, rfl⟩, ⟨⟨_, rfl, rfl⟩, ⟨⟨_, rfl, rfl⟩, trivial⟩⟩⟩⟩⟩) trivial (⟨rfl, trivial⟩)) ?_
  refine awp_block ?_
  refine awp_for (ι := Nat × List Int) { t := [(0, _, _), (1, _, _), (11, _, _)], bx := [], ow := [((.t 5), _)] } (fun p => [(12, true, xi (p.1 : Int)), (5, true, xis p.2)]) (fun p => []) (fun p => p.1 ≤ t.length ∧ p.2.length ≤ p.1 ∧ whichL t s (t.length - p.1) p.1 p.2 = whichE t s) (fun p => t.length - p.1) ((0, [])) (⟨by simp, by simp, rfl⟩) (sub_mk (⟨⟨_, rfl, rfl⟩, ⟨⟨_, rfl, rfl⟩, ⟨⟨_, rfl, rfl⟩, ⟨⟨_, rfl, rfl⟩, ⟨⟨_, rfl, rfl⟩, trivial⟩⟩⟩⟩⟩) trivial (⟨rfl, trivial⟩)) ?_
  intro p hok
  dsimp only [List.cons_append, List.nil_append] at *
  obtain ⟨k, out⟩ := p
  dsimp only at hok ⊢
  obtain ⟨hk, hvk, hinv⟩ := hok
  refine awp_seq ?_
  refine awp_region ?_
  refine al_pure rfl rfl rfl (pure_cmp rfl rfl (fun _ => rfl) (fun _ => rfl) rfl) ?_
  refine al_nil ?_
  refine awp_seq ?_
  refine awp_cond rfl (fun hc => ?_) (fun hc => ?_)
  · try simp only [n1, n2, n3, n4, n5, n6, n7, n8, n9, n10, n11, n12, n13, n14, n15, n16, Fd.rows_len, Fm.rows_len, V.rows_len] at hc
    rw [show t.length - k = (t.length - (k + 1)) + 1 by omega, whichL] at hinv
    refine awp_skip ?_
    refine awp_seq ?_
    refine awp_block ?_
    refine awp_seq ?_
    refine awp_region ?_
    refine al_pure rfl rfl rfl (pure_move rfl (fun _ => rfl)) ?_
    refine al_pure rfl rfl rfl (pure_assign rfl (fun _ => rfl)) ?_
    refine al_nil ?_
    refine awp_seq ?_
    refine awp_region ?_
    refine al_pure rfl rfl rfl (pure_move rfl (fun _ => rfl)) ?_
    refine al_pure rfl rfl rfl (pure_move rfl (fun _ => rfl)) ?_
    refine al_pure rfl rfl rfl (pure_move rfl (fun _ => rfl)) ?_
    refine al_call rfl rfl rfl rfl rfl rfl (fun _ => rfl) (fun _ => rfl) (cDecode_spec _ _ _ hs) rfl ?_
    refine al_pure rfl rfl rfl (pure_move rfl (fun _ => rfl)) ?_
    refine al_pure rfl rfl rfl (pure_extract rfl (fun _ => rfl) rfl) ?_
    refine al_pure rfl rfl rfl (pure_extract rfl (fun _ => rfl) rfl) ?_
    refine al_pure rfl rfl rfl (pure_extract rfl (fun _ => rfl) rfl) ?_
    refine al_do rfl (does_alloc rfl rfl rfl) ?_
    refine al_sub (s := { t := [(0, _, _), (1, _, _), (5, _, _), (6, _, _), (7, _, _), (11, _, _), (12, _, _), (20, _, _), (21, _, _), (22, _, _)], bx := [((.l 7), _)], ow := [((.t 5), _)] }) (sub_mk (⟨⟨_, rfl, rfl⟩, ⟨⟨_, rfl, rfl⟩, ⟨⟨_, rfl, rfl⟩, ⟨⟨_, rfl, rfl⟩, ⟨⟨_, rfl, rfl⟩, ⟨⟨_, rfl, rfl⟩, ⟨⟨_, rfl, rfl⟩, ⟨⟨_, rfl, rfl⟩, ⟨⟨_, rfl, rfl⟩, ⟨⟨_, rfl, rfl⟩, trivial⟩⟩⟩⟩⟩⟩⟩⟩⟩⟩) (⟨⟨_, rfl, rfl⟩, trivial⟩) (⟨rfl, trivial⟩)) ?_
    refine al_do rfl (does_store rfl rfl rfl rfl rfl rfl rfl) ?_
    refine al_pure rfl rfl rfl (pure_assign rfl (fun _ => rfl)) ?_
    refine al_pure rfl rfl rfl (pure_assign rfl (fun _ => rfl)) ?_
    refine al_nil ?_
    refine awp_seq ?_
    refine awp_region ?_
    refine al_pure rfl rfl rfl (pure_move rfl (fun _ => rfl)) ?_
    refine al_pure rfl rfl rfl (pure_cmp rfl rfl (fun _ => rfl) (fun _ => rfl) rfl) ?_
    refine al_nil ?_
    refine awp_cond rfl (fun hc2 => ?_) (fun hc2 => ?_)
    · try simp only [n1, n2, n3, n4, n5, n6, n7, n8, n9, n10, n11, n12, n13, n14, n15, n16, Fd.rows_len, Fm.rows_len, V.rows_len] at hc2
      rw [if_pos hc2] at hinv
      refine awp_region ?_
      refine al_do rfl (does_take (.inl rfl) rfl rfl rfl) ?_
      refine al_pure rfl rfl rfl (pure_move rfl (fun _ => rfl)) ?_
      refine al_buildSlice (xs := [_]) rfl rfl rfl rfl rfl rfl rfl rfl rfl (fun _ => rfl) rfl ?_
      refine al_do rfl (does_append rfl rfl rfl rfl rfl rfl rfl (by simp [intR_len]; omega) (by simp [intR_len]; omega)) ?_
      refine al_do rfl (does_take (.inr rfl) rfl rfl rfl) ?_
      refine al_nil ?_
      refine awp_sub (s := { t := [(0, _, _), (1, _, _), (5, _, _), (11, _, _), (12, _, _)], bx := [], ow := [((.t 5), _)] }) (sub_mk (⟨⟨_, rfl, rfl⟩, ⟨⟨_, rfl, rfl⟩, ⟨⟨_, rfl, rfl⟩, ⟨⟨_, rfl, rfl⟩, ⟨⟨_, rfl, rfl⟩, trivial⟩⟩⟩⟩⟩) trivial (⟨rfl, trivial⟩)) ?_
      refine awp_region ?_
      refine al_pure rfl rfl rfl (pure_arith rfl rfl (fun _ => rfl) (fun _ => rfl) rfl (IntWalk.i64_in _ (by omega))) ?_
      refine al_pure rfl rfl rfl (pure_move rfl (fun _ => rfl)) ?_
      refine al_nil ?_
      refine ⟨(k + 1, out ++ [(k : Int)]), ?_, ?_, sub_mk (⟨⟨_, rfl, ?_⟩, ⟨⟨_, rfl, ?_⟩, ⟨⟨_, rfl, rfl⟩, ⟨⟨_, rfl, rfl⟩, ⟨⟨_, rfl, rfl⟩, trivial⟩⟩⟩⟩⟩) trivial (⟨rfl, trivial⟩)⟩
      · exact ⟨by dsimp only; omega, by simp; omega, hinv⟩
      · dsimp only; omega
      · rfl
      · exact tx (xis_snoc _ _)
    · try simp only [n1, n2, n3, n4, n5, n6, n7, n8, n9, n10, n11, n12, n13, n14, n15, n16, Fd.rows_len, Fm.rows_len, V.rows_len] at hc2
      rw [if_neg hc2] at hinv
      refine awp_skip ?_
      refine awp_region ?_
      refine al_pure rfl rfl rfl (pure_arith rfl rfl (fun _ => rfl) (fun _ => rfl) rfl (IntWalk.i64_in _ (by omega))) ?_
      refine al_pure rfl rfl rfl (pure_move rfl (fun _ => rfl)) ?_
      refine al_nil ?_
      refine ⟨(k + 1, out), ?_, ?_, sub_mk (⟨⟨_, rfl, ?_⟩, ⟨⟨_, rfl, ?_⟩, ⟨⟨_, rfl, rfl⟩, ⟨⟨_, rfl, rfl⟩, ⟨⟨_, rfl, rfl⟩, trivial⟩⟩⟩⟩⟩) trivial (⟨rfl, trivial⟩)⟩
      · exact ⟨by dsimp only; omega, by dsimp only; omega, hinv⟩
      · dsimp only; omega
      · rfl
      · rfl
  · try simp only [n1, n2, n3, n4, n5, n6, n7, n8, n9, n10, n11, n12, n13, n14, n15, n16, Fd.rows_len, Fm.rows_len, V.rows_len] at hc
    rw [show t.length - k = 0 by omega, whichL] at hinv
    refine awp_exit ?_
    repeat (first | refine thenS_exit ?_ | refine blockS_hit ?_ | refine blockS_miss rfl ?_)
    refine awp_seq ?_
    refine awp_region ?_
    refine al_do rfl (does_take (.inl rfl) rfl rfl rfl) ?_
    refine al_do rfl (does_take (.inr rfl) rfl rfl rfl) ?_
    refine al_nil ?_
    refine awp_ret ?_
    repeat (first | refine thenS_ret ?_ | refine blockS_ret ?_)
    refine ret_ok rfl ?_ trivial
    (rw [← hinv]; rfl)
end Go.Proofs.Ytgjclggjkhapfaa
/- The methods of strings.Builder, step by step: what they do to a world. -/
set_option linter.unusedVariables false
set_option linter.unusedSimpArgs false
namespace Go.Proofs.Ytgjclggjkhapfaa
open Go Go.Proofs Go.RowKit
open Go.Abs (Checked1 BdSys)
theorem infoB0 : (Try.prog.info? 99).map (·.size) = some 2 := by kernel_rfl
theorem infoB : ∃ j, Try.prog.info? 99 = some j ∧ j.size = 2 := Option.map_eq_some_iff.1 infoB0
set_option maxHeartbeats 1000000 in
set_option maxRecDepth 100000 in
theorem copyCheck_used (b : Nat) (w : World) (h0 : w.cell? ⟨b, 0, none⟩ = some (.pointer (some ⟨b, 0, none⟩))) :
    Calls Try.prog 81 #[.pointer (some ⟨b, 0, none⟩)] w fun e w' => e = .returned (.tuple #[]) ∧ w' = w := by
  obtain ⟨j, hj, _⟩ := infoB
  go_enter Try.func81, Try.ntmps81
  go_wp2
  rw [Lib.run_neq_ptr_same w _ Try.underlying97 hj]
  go_wp2
  go_end0
  exact ⟨rfl, rfl⟩
set_option maxHeartbeats 1000000 in
set_option maxRecDepth 100000 in
theorem copyCheck_fresh (b : Nat) (w : World) (h0 : w.cell? ⟨b, 0, none⟩ = some (.pointer none)) (hsh : w.shape? b = some (99, 2)) (hfz : w.frozen? ⟨b, 0, none⟩ = false) :
    Calls Try.prog 81 #[.pointer (some ⟨b, 0, none⟩)] w fun e w' => e = .returned (.tuple #[]) ∧ w' = w.setCell ⟨b, 0, none⟩ (.pointer (some ⟨b, 0, none⟩)) := by
  obtain ⟨j, hj, hjs⟩ := infoB
  go_enter Try.func81, Try.ntmps81
  go_wp2
  rw [Lib.run_to_unsafe w ⟨b, 0, none⟩ Try.underlying97 Try.underlying145 hj (by rw [hjs]; decide) hsh (Nat.zero_lt_succ 1)]
  simp only [Result.andThen]
  rw [Oper.upon_value]
  go_wp2
  rw [run_callFunc_extern Try.func101 (by kernel_rfl) (by kernel_rfl) (by kernel_rfl) (e := Extern.AbiNoEscape.same) (by kernel_rfl)]
  rw [Lib.run_noEscape]
  simp only [Result.andThen]
  rw [Oper.upon_value]
  go_wp2
  rw [Lib.run_from_unsafe w ⟨b, 0, none⟩ Try.underlying145 Try.underlying97 hj hsh (by kernel_rfl)]
  simp only [Result.andThen]
  rw [Oper.upon_value]
  go_wp2
  go_end0
  exact ⟨rfl, rfl⟩
theorem wpList_run {P : Program} {ops : Array Oper} {rest : List Oper} {o : Oper} {a : Act} {w w1 : World} {Q : Exit → Act → World → Prop} {v : Value} (hgd : o.guard = none)
    (hrun : (execOp a.eval o).run P w = .ok (.value v) w1) (h : wpList P ops Q rest (a.put o.dst v) w1) : wpList P ops Q (o :: rest) a w := by
  unfold wpList
  have hw : Region.wanted o (yielded ops a.tmps) = true := by simp [Region.wanted, hgd]
  rw [hw]
  simp only [if_true]
  refine .inl ?_
  unfold Oper.wp
  rw [hrun, Oper.upon_value]
  exact h
theorem copyCheck_any (b : Nat) (w w0 : World) (h : Checked1 b w w0) (hsh : w.shape? b = some (99, 2)) (hfz : w.frozen? ⟨b, 0, none⟩ = false) :
    Calls Try.prog 81 #[.pointer (some ⟨b, 0, none⟩)] w fun e w' => e = .returned (.tuple #[]) ∧ w' = w0 := by
  rcases h with ⟨h, rfl⟩ | ⟨h, rfl⟩
  · exact copyCheck_fresh b w h hsh hfz
  · exact copyCheck_used b _ h
set_option maxHeartbeats 1000000 in
set_option maxRecDepth 100000 in
theorem writeString_walk (b : Nat) (w w0 w1 : World) (v' : Value) (uo : Option Addr) (un uc : Nat) (s : ByteArray) (h : Checked1 b w w0) (hsh : w.shape? b = some (99, 2)) (hfz : w.frozen? ⟨b, 0, none⟩ = false)
    (h1 : w0.cell? ⟨b, 1, none⟩ = some v') (hap : (Builtin.append_ #[48, 9] 48 #[v', .string s]).run Try.prog w0 = .ok (.slice uo un uc) w1) (h2 : w1.cell? ⟨b, 1, none⟩ = some v') (hf1 : w1.frozen? ⟨b, 1, none⟩ = false) :
    Calls Try.prog 54 #[.pointer (some ⟨b, 0, none⟩), .string s] w fun e w' => e = .returned (.tuple #[.int .i64 s.size, .nilIface]) ∧ w' = w1.setCell ⟨b, 1, none⟩ (.slice uo un uc) := by
  go_enter Try.func54, Try.ntmps54
  go_wp2_with (go_at_call 81; refine (copyCheck_any b w w0 h hsh hfz).mono ?_)
  rintro e w' ⟨rfl, rfl⟩
  go_wp2_with (at_builtin; refine wpList_run rfl (v := .slice uo un uc) (w1 := w1) ?hr ?_)
  case hr => simp [execOp, Go.resolve, invoke, builtin, Act.eval, Act.put, hap]
  go_wp2
  go_ret2
  exact ⟨rfl, rfl⟩
set_option maxHeartbeats 1000000 in
set_option maxRecDepth 100000 in
theorem writeByte_walk (b : Nat) (w w0 w1 : World) (v' : Value) (uo : Option Addr) (un uc : Nat) (c : Int) (h : Checked1 b w w0) (hsh : w.shape? b = some (99, 2)) (hfz : w.frozen? ⟨b, 0, none⟩ = false)
    (h1 : w0.cell? ⟨b, 1, none⟩ = some v') (hap : (Builtin.append_ #[48, 48] 48 #[v', .slice (some ⟨w0.heap.size, 0, none⟩) 1 1]).run Try.prog (w0.alloc (.cells #[.int .u8 c] 5)) = .ok (.slice uo un uc) w1) (h2 : w1.cell? ⟨b, 1, none⟩ = some v') (hf1 : w1.frozen? ⟨b, 1, none⟩ = false) :
    Calls Try.prog 55 #[.pointer (some ⟨b, 0, none⟩), .int .u8 c] w fun e w' => e = .returned .nilIface ∧ w' = w1.setCell ⟨b, 1, none⟩ (.slice uo un uc) := by
  go_enter Try.func55, Try.ntmps55
  go_wp2_with (go_at_call 81; refine (copyCheck_any b w w0 h hsh hfz).mono ?_)
  rintro e w' ⟨rfl, rfl⟩
  go_wp2_with (at_builtin; refine wpList_run rfl (v := .slice uo un uc) (w1 := w1) ?hr ?_)
  case hr => simp [execOp, Go.resolve, invoke, builtin, Act.eval, Act.put, hap]
  go_wp2
  go_ret
  exact ⟨rfl, rfl⟩
set_option maxHeartbeats 1000000 in
set_option maxRecDepth 100000 in
theorem string_walk (b : Nat) (w w1 w2 : World) (ao : Option Addr) (n cap : Nat) (p : Value) (s : ByteArray) (h1 : w.cell? ⟨b, 1, none⟩ = some (.slice ao n cap))
    (hsd : (Builtin.unsafeSliceData_ #[48] 128 #[.slice ao n cap]).run Try.prog w.drew = .ok p w1) (h2 : w1.cell? ⟨b, 1, none⟩ = some (.slice ao n cap))
    (hus : (Builtin.unsafeString_ #[128, 3] 9 #[p, .int .i64 n]).run Try.prog w1 = .ok (.string s) w2) :
    Calls Try.prog 56 #[.pointer (some ⟨b, 0, none⟩)] w fun e w' => e = .returned (.string s) ∧ w' = w2 := by
  have c1 : w.drew.cell? ⟨b, 1, none⟩ = some (.slice ao n cap) := h1
  go_enter Try.func56, Try.ntmps56
  go_wp2
  go_region
  all_goals (go_wp2; go_ret; exact ⟨rfl, rfl⟩)
theorem infoU0 : (Try.prog.info? 5).map (fun j => (j.size, j.bytes, j.zero)) = some (1, 1, some (.int .u8 0)) := by kernel_rfl
theorem infoU : ∃ j, Try.prog.info? 5 = some j ∧ j.size = 1 ∧ j.bytes = 1 ∧ j.zero = some (.int .u8 0) := by
  obtain ⟨j, h1, h2⟩ := Option.map_eq_some_iff.1 infoU0
  simp only [Prod.mk.injEq] at h2
  exact ⟨j, h1, h2⟩
theorem enW0 : Abs.Enters sys 54 := ⟨_, Try.func54, by kernel_rfl, by kernel_rfl⟩
theorem enB0 : Abs.Enters sys 55 := ⟨_, Try.func55, by kernel_rfl, by kernel_rfl⟩
theorem enS0 : Abs.Enters sys 56 := ⟨_, Try.func56, by kernel_rfl, by kernel_rfl⟩
/-- What the steps of a Builder lean on, of this program. -/
noncomputable def bds : BdSys sys where
  tB := 99
  tS := 48
  tStr := 9
  tU := 5
  tPU := 128
  tI := 3
  tN := 99 * 4096 + 5
  hN1 := rfl
  hN2 := rfl
  fW := 54
  fB := 55
  fS := 56
  jf := infoU.choose
  hu := Try.underlying48
  hstr := Try.underlying9
  hpu := Try.underlying128
  hinfo := infoU.choose_spec.1
  hsz := infoU.choose_spec.2.1
  hby := infoU.choose_spec.2.2.1
  hze := infoU.choose_spec.2.2.2
  hcells := (show Try.prog.cellsOf 5 = 1 by kernel_rfl)
  enW := enW0
  enB := enB0
  enS := enS0
  ws := fun b w w0 w1 v' uo un uc s h1 h2 h3 h4 h5 h6 h7 => writeString_walk b w w0 w1 v' uo un uc s h1 h2 h3 h4 h5 h6 h7
  wb := fun b w w0 w1 v' uo un uc c h1 h2 h3 h4 h5 h6 h7 => writeByte_walk b w w0 w1 v' uo un uc c h1 h2 h3 h4 h5 h6 h7
  st := fun b w w1 w2 ao n cap p s h1 h2 h3 h4 => string_walk b w w1 w2 ao n cap p s h1 h2 h3 h4
end Go.Proofs.Ytgjclggjkhapfaa
/- Contracts: the strings of values, on both sides. -/
set_option linter.unusedVariables false
set_option linter.unusedSimpArgs false
namespace Go.Proofs.Ytgjclggjkhapfaa
open Go Go.Abs
def encF (rec : Int → V → List UInt8) (f : Fd) (v : V) : List UInt8 :=
  if f.kind = 1 then f.bytes else if f.kind = 3 then UInt8.ofNat v.bytes.length :: v.bytes else if f.kind = 4 then [UInt8.ofNat v.number.toNat]
  else if f.kind = 5 then UInt8.ofNat (rec f.n v).length :: rec f.n v else v.bytes
def encL (rec : Int → V → List UInt8) : List Fd → List V → List UInt8
  | f :: fs, v :: vs => encF rec f v ++ encL rec fs vs
  | _, _ => []
def enc0 (t : List Fm) (i : Int) (v : V) : List UInt8 := encL (fun _ _ => []) (t.getD i.toNat default).fields v.kids
def encT (t : List Fm) (i : Int) (v : V) : List UInt8 := encL (enc0 t) (t.getD i.toNat default).fields v.kids
def encE (t : List Fm) (i : Int) (v : V) : List UInt8 × Int := if valE t i v ≠ 0 then ([], valE t i v) else (encT t i v, 0)
theorem encL_take {rec : Int → V → List UInt8} : ∀ {fs : List Fd} {vs : List V} {k : Nat}, k < fs.length → k < vs.length →
    encL rec (fs.take (k + 1)) (vs.take (k + 1)) = encL rec (fs.take k) (vs.take k) ++ encF rec (fs.getD k default) (vs.getD k default)
  | [], _, k, h, _ => by simp at h
  | _ :: _, [], k, _, h => by simp at h
  | f :: fs, v :: vs, 0, _, _ => by simp [encL]
  | f :: fs, v :: vs, k + 1, h1, h2 => by
    have ih := encL_take (rec := rec) (fs := fs) (vs := vs) (k := k) (by simpa using h1) (by simpa using h2)
    simp only [List.take_succ_cons, encL, List.getD_cons_succ, ih, List.append_assoc]
theorem kidsE_zero {rec : Int → V → Int} : ∀ {fs : List Fd} {vs : List V}, kidsE rec fs vs = 0 → ∀ k, k < fs.length → k < vs.length → fvE rec (fs.getD k default) (vs.getD k default) = 0
  | [], _, _, k, h, _ => by simp at h
  | _ :: _, [], _, k, _, h => by simp at h
  | f :: fs, v :: vs, h, k, h1, h2 => by
    rw [kidsE] at h
    split at h
    · rename_i h0; exact absurd h h0
    · rename_i h0
      cases k with
      | zero => simpa using h0
      | succ k =>
        have := kidsE_zero h k (by simpa using h1) (by simpa using h2)
        simpa using this
/-- What is known of a field's valid value. -/
structure VOk (f : Fd) (v : V) : Prop where
  b : (v.bytes.length : Int) ≤ 1000
  b3 : f.kind = 3 → (v.bytes.length : Int) ≤ 15
  b2 : f.kind = 2 → (v.bytes.length : Int) ≤ 15
  n : f.kind = 4 → 0 ≤ v.number ∧ v.number ≤ 255
theorem fvE_ok {rec : Int → V → Int} {f : Fd} {v : V} (hf : FdOk f) (h : fvE rec f v = 0) (h5 : f.kind = 5 → v.bytes = []) : VOk f v := by
  obtain ⟨k, b, n, l, hh, lh, h4⟩ := hf
  unfold fvE at h
  split at h
  · simp at h
  · rename_i h1
    split at h
    · simp at h
    · rename_i h2
      have h1 : fitsB f v = true := by simpa using h1
      have h2 : rngB f v = true := by simpa using h2
      unfold fitsB zeroB at h1
      unfold rngB at h2
      obtain hk | hk | hk | hk | hk | hk : f.kind = 1 ∨ f.kind = 2 ∨ f.kind = 3 ∨ f.kind = 4 ∨ f.kind = 5 ∨ f.kind = 6 := by omega
      all_goals (simp [hk] at h1 h2 h5 h4; constructor <;> simp_all <;> omega)
theorem bdc {a b : List UInt8} (h : a = b) : [C.bl, C.sl 1 (bytesR a)] = [C.bl, C.sl 1 (bytesR b)] := by rw [h]
theorem u8_nat {x : Int} {n : Nat} (h : x = n) (hn : n < 256) : x = ((UInt8.ofNat n).toNat : Int) := by
  rw [h, UInt8.toNat_ofNat']; omega
theorem byte1 {x : Int} {n : Nat} (h : x = n) (hn : n < 256) : [[C.i .u8 x]] = bytesR [UInt8.ofNat n] := by
  rw [u8_nat h hn]; rfl
theorem encL_len {rec : Int → V → List UInt8} : ∀ {fs : List Fd} {vs : List V}, (∀ k, k < fs.length → k < vs.length → (encF rec (fs.getD k default) (vs.getD k default)).length ≤ 2000) → (encL rec fs vs).length ≤ 2000 * fs.length
  | [], _, _ => by simp [encL]
  | _ :: _, [], _ => by simp [encL]
  | f :: fs, v :: vs, h => by
    have h0 := h 0 (by simp) (by simp)
    have ih := encL_len (rec := rec) (fs := fs) (vs := vs) fun k h1 h2 => by have := h (k + 1) (by simpa using h1) (by simpa using h2); simpa using this
    simp only [List.getD_cons_zero] at h0
    simp only [encL, List.length_append, List.length_cons]; omega
theorem encode_gen (t : List Fm) (i : Int) (v : V) (rec : Int → V → List UInt8) (hi : 0 ≤ i ∧ i < t.length) (hl6 : (t.getD i.toNat default).fields.length ≤ 6) (hkl : v.kids.length = (t.getD i.toNat default).fields.length)
    (hfd : ∀ k, k < (t.getD i.toNat default).fields.length → FdOk ((t.getD i.toNat default).fields.getD k default))
    (hv : ∀ k, k < (t.getD i.toNat default).fields.length → VOk ((t.getD i.toNat default).fields.getD k default) (v.kids.getD k default))
    (hln : ∀ k, k < (t.getD i.toNat default).fields.length → ((t.getD i.toNat default).fields.getD k default).kind = 5 → (rec ((t.getD i.toNat default).fields.getD k default).n (v.kids.getD k default)).length ≤ 255)
    (hrec : ∀ k, k < (t.getD i.toNat default).fields.length → ((t.getD i.toNat default).fields.getD k default).kind = 5 → Ctr sys 35 [xtab t, xi ((t.getD i.toNat default).fields.getD k default).n, xv (v.kids.getD k default)] [] (xs (rec ((t.getD i.toNat default).fields.getD k default).n (v.kids.getD k default))) none []) :
    Ctr sys 35 [xtab t, xi i, xv v] [] (xs (encL rec (t.getD i.toNat default).fields v.kids)) none [] := by
  have hr := V.rows_len v.kids
  have hrl := Fm.rows_len t
  have hrf := Fd.rows_len (t.getD i.toNat default).fields
  have hel : ∀ k, k ≤ (t.getD i.toNat default).fields.length → (encL rec ((t.getD i.toNat default).fields.take k) (v.kids.take k)).length ≤ 12000 := by
    intro k hk
    have := encL_len (rec := rec) (fs := (t.getD i.toNat default).fields.take k) (vs := v.kids.take k) fun j h1 h2 => by
      simp only [List.length_take] at h1 h2
      rw [getD_take _ _ (by omega), getD_take _ _ (by omega)]
      obtain ⟨w1, w2, w3, w4⟩ := hv j (by omega)
      have w5 := (hfd j (by omega)).bytes
      have w6 := hln j (by omega)
      unfold encF
      split
      · omega
      · split
        · simp only [List.length_cons]; omega
        · split
          · simp only [List.length_cons, List.length_nil]; omega
          · split
            · rename_i q; have := w6 q; simp only [List.length_cons]; omega
            · omega
    simp only [List.length_take] at this
    omega
  refine spec_intro Try.func35 rfl rfl rfl rfl rfl rfl ?_
  refine awp_seq ?_
  refine awp_region ?_
  refine al_do rfl (does_box rfl rfl rfl rfl) ?_
  refine al_pure rfl rfl rfl (pure_assign rfl (fun _ => rfl)) ?_
  refine al_nil ?_
  refine awp_seq ?_
  refine awp_region ?_
  refine al_do rfl (does_allocBd (u := 405509) rfl rfl rfl rfl rfl) ?_
  refine al_nil ?_
  refine awp_seq ?_
  refine awp_seq ?_
  refine awp_region ?_
  refine al_pure rfl rfl rfl (pure_move rfl (fun _ => rfl)) ?_
  refine al_pure rfl rfl rfl (pure_move rfl (fun _ => rfl)) ?_
  refine al_pure rfl rfl rfl (pure_indexAddr (j := i.toNat) rfl rfl (fun _ => rfl) (fun _ => rfl) rfl rfl (by omega) (fun hh => Fm.rows_at (by omega))) ?_
  refine al_pure rfl rfl rfl (pure_fieldRo rfl (fun _ => rfl) rfl rfl) ?_
  refine al_pure rfl rfl rfl (pure_loadRo rfl (fun _ => rfl) rfl rfl rfl) ?_
  refine al_lenSl rfl rfl rfl rfl rfl (fun _ => rfl) rfl rfl ?_ (fun hh => by simp at hh); intro hlen
  refine al_pure rfl rfl rfl (pure_move rfl (fun _ => rfl)) ?_
  refine al_nil ?_
  refine awp_sub (s := { t := [(0, _, _), (5, _, _), (7, _, _), (16, _, _), (17, _, _), (18, _, _)], bx := [((.bd 405509 7), _), ((.l 5), _)], ow := [((.b (.bd 405509 7) 1), _)] }) (sub_mk (⟨⟨_, rfl, rfl⟩, ⟨⟨_, rfl, rfl⟩, ⟨⟨_, rfl, rfl⟩, ⟨⟨_, rfl, rfl⟩, ⟨⟨_, rfl, rfl⟩, ⟨⟨_, rfl, rfl⟩, trivial⟩⟩⟩⟩⟩⟩) (⟨⟨_, rfl, rfl⟩, ⟨⟨_, rfl, rfl⟩, trivial⟩⟩) (⟨rfl, trivial⟩)) ?_
  refine awp_block ?_
  refine awp_for (ι := Nat) { t := [(0, _, _), (5, _, _), (7, _, _), (16, _, _), (17, _, _)], bx := [((.l 5), _)], ow := [((.b (.bd 405509 7) 1), _)] } (fun k => [(18, true, xi (k : Int))]) (fun k => [((.bd 405509 7), [.bl, .sl 1 (bytesR (encL rec ((t.getD i.toNat default).fields.take k) (v.kids.take k)))])]) (fun k => k ≤ (t.getD i.toNat default).fields.length) (fun k => (t.getD i.toNat default).fields.length - k) (0) (by simp) (sub_mk (⟨⟨_, rfl, rfl⟩, ⟨⟨_, rfl, rfl⟩, ⟨⟨_, rfl, rfl⟩, ⟨⟨_, rfl, rfl⟩, ⟨⟨_, rfl, rfl⟩, ⟨⟨_, rfl, rfl⟩, trivial⟩⟩⟩⟩⟩⟩) (⟨⟨_, rfl, rfl⟩, ⟨⟨_, rfl, rfl⟩, trivial⟩⟩) (⟨rfl, trivial⟩)) ?_
  intro k hok
  dsimp only [List.cons_append, List.nil_append]
  have hek := hel k hok
  refine awp_seq ?_
  refine awp_region ?_
  refine al_pure rfl rfl rfl (pure_cmp rfl rfl (fun _ => rfl) (fun _ => rfl) rfl) ?_
  refine al_nil ?_
  refine awp_seq ?_
  refine awp_cond rfl (fun hc => ?_) (fun hc => ?_)
  · try simp only [n1, n2, n3, n4, n5, n6, n7, n8, n9, n10, n11, n12, n13, n14, n15, n16, Fd.rows_len, Fm.rows_len, V.rows_len] at hc
    obtain ⟨w1, w2, w3, w4⟩ := hv k (by omega)
    have w5 := (hfd k (by omega)).bytes
    have w6 := hln k (by omega)
    have hT := encL_take (rec := rec) (fs := (t.getD i.toNat default).fields) (vs := v.kids) (k := k) (by omega) (by omega)
    refine awp_skip ?_
    refine awp_seq ?_
    refine awp_block ?_
    refine awp_seq ?_
    refine awp_region ?_
    refine al_pure rfl rfl rfl (pure_move rfl (fun _ => rfl)) ?_
    refine al_pure rfl rfl rfl (pure_indexAddr rfl rfl (fun _ => rfl) (fun _ => rfl) rfl rfl rfl (fun hh => Fd.rows_at (by omega))) ?_
    refine al_pure rfl rfl rfl (pure_loadRoRow rfl (fun _ => rfl) rfl rfl rfl rfl) ?_
    refine al_do rfl (does_alloc rfl rfl rfl) ?_
    refine al_pure rfl rfl rfl (pure_assign rfl (fun _ => rfl)) ?_
    refine al_do rfl (does_store rfl rfl rfl rfl rfl rfl rfl) ?_
    refine al_nil ?_
    refine awp_sub (s := { t := [(0, _, _), (5, _, _), (7, _, _), (8, _, _), (9, _, _), (16, _, _), (17, _, _), (18, _, _)], bx := [((.bd 405509 7), _), ((.l 5), _), ((.l 9), _)], ow := [((.b (.bd 405509 7) 1), _)] }) (sub_mk (⟨⟨_, rfl, rfl⟩, ⟨⟨_, rfl, rfl⟩, ⟨⟨_, rfl, rfl⟩, ⟨⟨_, rfl, rfl⟩, ⟨⟨_, rfl, rfl⟩, ⟨⟨_, rfl, rfl⟩, ⟨⟨_, rfl, rfl⟩, ⟨⟨_, rfl, rfl⟩, trivial⟩⟩⟩⟩⟩⟩⟩⟩) (⟨⟨_, rfl, rfl⟩, ⟨⟨_, rfl, rfl⟩, ⟨⟨_, rfl, rfl⟩, trivial⟩⟩⟩) (⟨rfl, trivial⟩)) ?_
    refine awp_seq ?_
    refine awp_region ?_
    refine al_pure rfl rfl rfl (pure_fieldPtr rfl (fun _ => rfl) rfl rfl) ?_
    refine al_pure rfl rfl rfl (pure_loadBox rfl (fun _ => rfl) rfl rfl rfl rfl) ?_
    refine al_pure rfl rfl rfl (pure_move rfl (fun _ => rfl)) ?_
    refine al_pure rfl rfl rfl (pure_indexAddr rfl rfl (fun _ => rfl) (fun _ => rfl) rfl rfl rfl (fun hh => V.rows_at (by omega))) ?_
    refine al_pure rfl rfl rfl (pure_loadRoRow rfl (fun _ => rfl) rfl rfl rfl rfl) ?_
    refine al_do rfl (does_alloc rfl rfl rfl) ?_
    refine al_do rfl (does_store rfl rfl rfl rfl rfl rfl rfl) ?_
    refine al_nil ?_
    refine awp_sub (s := { t := [(0, _, _), (5, _, _), (7, _, _), (9, _, _), (10, _, _), (16, _, _), (17, _, _), (18, _, _)], bx := [((.bd 405509 7), _), ((.l 10), _), ((.l 5), _), ((.l 9), _)], ow := [((.b (.bd 405509 7) 1), _)] }) (sub_mk (⟨⟨_, rfl, rfl⟩, ⟨⟨_, rfl, rfl⟩, ⟨⟨_, rfl, rfl⟩, ⟨⟨_, rfl, rfl⟩, ⟨⟨_, rfl, rfl⟩, ⟨⟨_, rfl, rfl⟩, ⟨⟨_, rfl, rfl⟩, ⟨⟨_, rfl, rfl⟩, trivial⟩⟩⟩⟩⟩⟩⟩⟩) (⟨⟨_, rfl, rfl⟩, ⟨⟨_, rfl, rfl⟩, ⟨⟨_, rfl, rfl⟩, ⟨⟨_, rfl, rfl⟩, trivial⟩⟩⟩⟩) (⟨rfl, trivial⟩)) ?_
    refine awp_seq ?_
    refine awp_region ?_
    refine al_pure rfl rfl rfl (pure_fieldPtr rfl (fun _ => rfl) rfl rfl) ?_
    refine al_pure rfl rfl rfl (pure_loadBox rfl (fun _ => rfl) rfl rfl rfl rfl) ?_
    refine al_nil ?_
    refine awp_block ?_
    refine awp_seq ?_
    refine awp_region ?_
    refine al_pure rfl rfl rfl (pure_cmp rfl rfl (fun _ => rfl) (fun _ => rfl) rfl) ?_
    refine al_pure rfl rfl rfl (pure_assign rfl (fun _ => rfl)) ?_
    refine al_nil ?_
    refine awp_cond rfl (fun hc1 => ?_) (fun hc1 => ?_)
    · try simp only [n1, n2, n3, n4, n5, n6, n7, n8, n9, n10, n11, n12, n13, n14, n15, n16, Fd.rows_len, Fm.rows_len, V.rows_len] at hc1
      refine awp_region ?_
      refine al_pure rfl rfl rfl (pure_fieldPtr rfl (fun _ => rfl) rfl rfl) ?_
      refine al_pure rfl rfl rfl (pure_loadBox rfl (fun _ => rfl) rfl rfl rfl rfl) ?_
      refine al_bws bds rfl rfl rfl rfl rfl rfl rfl rfl (by (try simp only [List.length_append, List.length_singleton]); omega) ?_
      refine al_nil ?_
      refine awp_sub (s := { t := [(0, _, _), (5, _, _), (7, _, _), (16, _, _), (17, _, _), (18, _, _)], bx := [((.bd 405509 7), _), ((.l 5), _)], ow := [((.b (.bd 405509 7) 1), _)] }) (sub_mk (⟨⟨_, rfl, rfl⟩, ⟨⟨_, rfl, rfl⟩, ⟨⟨_, rfl, rfl⟩, ⟨⟨_, rfl, rfl⟩, ⟨⟨_, rfl, rfl⟩, ⟨⟨_, rfl, rfl⟩, trivial⟩⟩⟩⟩⟩⟩) (⟨⟨_, rfl, rfl⟩, ⟨⟨_, rfl, rfl⟩, trivial⟩⟩) (⟨rfl, trivial⟩)) ?_
      refine awp_region ?_
      refine al_pure rfl rfl rfl (pure_arith rfl rfl (fun _ => rfl) (fun _ => rfl) rfl (IntWalk.i64_in _ (by omega))) ?_
      refine al_pure rfl rfl rfl (pure_move rfl (fun _ => rfl)) ?_
      refine al_nil ?_
      refine ⟨k + 1, ?_, ?_, sub_mk (⟨⟨_, rfl, ?_⟩, ⟨⟨_, rfl, rfl⟩, ⟨⟨_, rfl, rfl⟩, ⟨⟨_, rfl, rfl⟩, ⟨⟨_, rfl, rfl⟩, ⟨⟨_, rfl, rfl⟩, trivial⟩⟩⟩⟩⟩⟩) (⟨⟨_, rfl, ?_⟩, ⟨⟨_, rfl, rfl⟩, trivial⟩⟩) (⟨rfl, trivial⟩)⟩
      all_goals (first | omega | rfl | (refine bdc ?_; rw [hT]; unfold encF; simp only [*, if_true, if_false, List.append_assoc, List.singleton_append] <;> rfl))
    · try simp only [n1, n2, n3, n4, n5, n6, n7, n8, n9, n10, n11, n12, n13, n14, n15, n16, Fd.rows_len, Fm.rows_len, V.rows_len] at hc1
      refine awp_seq ?_
      refine awp_region ?_
      refine al_pure rfl rfl rfl (pure_cmp rfl rfl (fun _ => rfl) (fun _ => rfl) rfl) ?_
      refine al_pure rfl rfl rfl (pure_assign rfl (fun _ => rfl)) ?_
      refine al_nil ?_
      refine awp_sub (s := { t := [(0, _, _), (5, _, _), (7, _, _), (9, _, _), (10, _, _), (16, _, _), (17, _, _), (18, _, _), (29, _, _), (38, _, _)], bx := [((.bd 405509 7), _), ((.l 10), _), ((.l 5), _), ((.l 9), _)], ow := [((.b (.bd 405509 7) 1), _)] }) (sub_mk (⟨⟨_, rfl, rfl⟩, ⟨⟨_, rfl, rfl⟩, ⟨⟨_, rfl, rfl⟩, ⟨⟨_, rfl, rfl⟩, ⟨⟨_, rfl, rfl⟩, ⟨⟨_, rfl, rfl⟩, ⟨⟨_, rfl, rfl⟩, ⟨⟨_, rfl, rfl⟩, ⟨⟨_, rfl, rfl⟩, ⟨⟨_, rfl, rfl⟩, trivial⟩⟩⟩⟩⟩⟩⟩⟩⟩⟩) (⟨⟨_, rfl, rfl⟩, ⟨⟨_, rfl, rfl⟩, ⟨⟨_, rfl, rfl⟩, ⟨⟨_, rfl, rfl⟩, trivial⟩⟩⟩⟩) (⟨rfl, trivial⟩)) ?_
      refine awp_cond rfl (fun hc2 => ?_) (fun hc2 => ?_)
      · try simp only [n1, n2, n3, n4, n5, n6, n7, n8, n9, n10, n11, n12, n13, n14, n15, n16, Fd.rows_len, Fm.rows_len, V.rows_len] at hc2
        refine awp_seq ?_
        refine awp_region ?_
        refine al_pure rfl rfl rfl (pure_fieldPtr rfl (fun _ => rfl) rfl rfl) ?_
        refine al_pure rfl rfl rfl (pure_loadBox rfl (fun _ => rfl) rfl rfl rfl rfl) ?_
        refine al_lenS rfl rfl rfl rfl rfl (fun _ => rfl) (Try.underlying9) ?_ (fun hh => by simp at hh); intro hlen
        refine al_pure rfl rfl rfl (pure_convInt rfl (fun _ => rfl) ⟨_, Try.underlying3⟩ (Try.underlying5) (IntWalk.u8_in _ (by omega))) ?_
        refine al_bwb bds (c := UInt8.ofNat (v.kids.getD k default).bytes.length) rfl rfl rfl rfl rfl rfl (by exact u8_nat (by omega) (by omega)) rfl rfl (by (try simp only [List.length_append, List.length_singleton]); omega) ?_
        refine al_nil ?_
        refine awp_sub (s := { t := [(0, _, _), (5, _, _), (7, _, _), (10, _, _), (16, _, _), (17, _, _), (18, _, _)], bx := [((.bd 405509 7), _), ((.l 10), _), ((.l 5), _)], ow := [((.b (.bd 405509 7) 1), _)] }) (sub_mk (⟨⟨_, rfl, rfl⟩, ⟨⟨_, rfl, rfl⟩, ⟨⟨_, rfl, rfl⟩, ⟨⟨_, rfl, rfl⟩, ⟨⟨_, rfl, rfl⟩, ⟨⟨_, rfl, rfl⟩, ⟨⟨_, rfl, rfl⟩, trivial⟩⟩⟩⟩⟩⟩⟩) (⟨⟨_, rfl, rfl⟩, ⟨⟨_, rfl, rfl⟩, ⟨⟨_, rfl, rfl⟩, trivial⟩⟩⟩) (⟨rfl, trivial⟩)) ?_
        refine awp_region ?_
        refine al_pure rfl rfl rfl (pure_fieldPtr rfl (fun _ => rfl) rfl rfl) ?_
        refine al_pure rfl rfl rfl (pure_loadBox rfl (fun _ => rfl) rfl rfl rfl rfl) ?_
        refine al_bws bds rfl rfl rfl rfl rfl rfl rfl rfl (by (try simp only [List.length_append, List.length_singleton]); omega) ?_
        refine al_nil ?_
        refine awp_region ?_
        refine al_pure rfl rfl rfl (pure_arith rfl rfl (fun _ => rfl) (fun _ => rfl) rfl (IntWalk.i64_in _ (by omega))) ?_
        refine al_pure rfl rfl rfl (pure_move rfl (fun _ => rfl)) ?_
        refine al_nil ?_
        refine ⟨k + 1, ?_, ?_, sub_mk (⟨⟨_, rfl, ?_⟩, ⟨⟨_, rfl, rfl⟩, ⟨⟨_, rfl, rfl⟩, ⟨⟨_, rfl, rfl⟩, ⟨⟨_, rfl, rfl⟩, ⟨⟨_, rfl, rfl⟩, trivial⟩⟩⟩⟩⟩⟩) (⟨⟨_, rfl, ?_⟩, ⟨⟨_, rfl, rfl⟩, trivial⟩⟩) (⟨rfl, trivial⟩)⟩
        all_goals (first | omega | rfl | (refine bdc ?_; rw [hT]; unfold encF; simp only [*, if_true, if_false, List.append_assoc, List.singleton_append] <;> rfl))
      · try simp only [n1, n2, n3, n4, n5, n6, n7, n8, n9, n10, n11, n12, n13, n14, n15, n16, Fd.rows_len, Fm.rows_len, V.rows_len] at hc2
        refine awp_seq ?_
        refine awp_region ?_
        refine al_pure rfl rfl rfl (pure_cmp rfl rfl (fun _ => rfl) (fun _ => rfl) rfl) ?_
        refine al_pure rfl rfl rfl (pure_assign rfl (fun _ => rfl)) ?_
        refine al_nil ?_
        refine awp_cond rfl (fun hc3 => ?_) (fun hc3 => ?_)
        · try simp only [n1, n2, n3, n4, n5, n6, n7, n8, n9, n10, n11, n12, n13, n14, n15, n16, Fd.rows_len, Fm.rows_len, V.rows_len] at hc3
          refine awp_region ?_
          refine al_pure rfl rfl rfl (pure_fieldPtr rfl (fun _ => rfl) rfl rfl) ?_
          refine al_pure rfl rfl rfl (pure_loadBox rfl (fun _ => rfl) rfl rfl rfl rfl) ?_
          refine al_pure rfl rfl rfl (pure_convInt rfl (fun _ => rfl) ⟨_, Try.underlying3⟩ (Try.underlying5) (IntWalk.u8_in _ (by omega))) ?_
          refine al_bwb bds (c := UInt8.ofNat (v.kids.getD k default).number.toNat) rfl rfl rfl rfl rfl rfl (by exact u8_nat (by omega) (by omega)) rfl rfl (by (try simp only [List.length_append, List.length_singleton]); omega) ?_
          refine al_nil ?_
          refine awp_sub (s := { t := [(0, _, _), (5, _, _), (7, _, _), (16, _, _), (17, _, _), (18, _, _)], bx := [((.bd 405509 7), _), ((.l 5), _)], ow := [((.b (.bd 405509 7) 1), _)] }) (sub_mk (⟨⟨_, rfl, rfl⟩, ⟨⟨_, rfl, rfl⟩, ⟨⟨_, rfl, rfl⟩, ⟨⟨_, rfl, rfl⟩, ⟨⟨_, rfl, rfl⟩, ⟨⟨_, rfl, rfl⟩, trivial⟩⟩⟩⟩⟩⟩) (⟨⟨_, rfl, rfl⟩, ⟨⟨_, rfl, rfl⟩, trivial⟩⟩) (⟨rfl, trivial⟩)) ?_
          refine awp_region ?_
          refine al_pure rfl rfl rfl (pure_arith rfl rfl (fun _ => rfl) (fun _ => rfl) rfl (IntWalk.i64_in _ (by omega))) ?_
          refine al_pure rfl rfl rfl (pure_move rfl (fun _ => rfl)) ?_
          refine al_nil ?_
          refine ⟨k + 1, ?_, ?_, sub_mk (⟨⟨_, rfl, ?_⟩, ⟨⟨_, rfl, rfl⟩, ⟨⟨_, rfl, rfl⟩, ⟨⟨_, rfl, rfl⟩, ⟨⟨_, rfl, rfl⟩, ⟨⟨_, rfl, rfl⟩, trivial⟩⟩⟩⟩⟩⟩) (⟨⟨_, rfl, ?_⟩, ⟨⟨_, rfl, rfl⟩, trivial⟩⟩) (⟨rfl, trivial⟩)⟩
          all_goals (first | omega | rfl | (refine bdc ?_; rw [hT]; unfold encF; simp only [*, if_true, if_false, List.append_assoc, List.singleton_append] <;> rfl))
        · try simp only [n1, n2, n3, n4, n5, n6, n7, n8, n9, n10, n11, n12, n13, n14, n15, n16, Fd.rows_len, Fm.rows_len, V.rows_len] at hc3
          refine awp_seq ?_
          refine awp_region ?_
          refine al_pure rfl rfl rfl (pure_cmp rfl rfl (fun _ => rfl) (fun _ => rfl) rfl) ?_
          refine al_pure rfl rfl rfl (pure_assign rfl (fun _ => rfl)) ?_
          refine al_nil ?_
          refine awp_cond rfl (fun hc4 => ?_) (fun hc4 => ?_)
          · try simp only [n1, n2, n3, n4, n5, n6, n7, n8, n9, n10, n11, n12, n13, n14, n15, n16, Fd.rows_len, Fm.rows_len, V.rows_len] at hc4
            refine awp_seq ?_
            refine awp_region ?_
            refine al_pure rfl rfl rfl (pure_move rfl (fun _ => rfl)) ?_
            refine al_pure rfl rfl rfl (pure_fieldPtr rfl (fun _ => rfl) rfl rfl) ?_
            refine al_pure rfl rfl rfl (pure_loadBox rfl (fun _ => rfl) rfl rfl rfl rfl) ?_
            refine al_pure rfl rfl rfl (pure_loadBoxRow rfl (fun _ => rfl) rfl rfl rfl rfl rfl) ?_
            refine al_call rfl rfl rfl rfl rfl rfl (fun _ => rfl) (fun _ => rfl) (hrec k (by omega) (by assumption)) rfl ?_
            refine al_pure rfl rfl rfl (pure_assign rfl (fun _ => rfl)) ?_
            refine al_nil ?_
            refine awp_sub (s := { t := [(0, _, _), (5, _, _), (7, _, _), (11, _, _), (16, _, _), (17, _, _), (18, _, _)], bx := [((.bd 405509 7), _), ((.l 5), _)], ow := [((.b (.bd 405509 7) 1), _)] }) (sub_mk (⟨⟨_, rfl, rfl⟩, ⟨⟨_, rfl, rfl⟩, ⟨⟨_, rfl, rfl⟩, ⟨⟨_, rfl, rfl⟩, ⟨⟨_, rfl, rfl⟩, ⟨⟨_, rfl, rfl⟩, ⟨⟨_, rfl, rfl⟩, trivial⟩⟩⟩⟩⟩⟩⟩) (⟨⟨_, rfl, rfl⟩, ⟨⟨_, rfl, rfl⟩, trivial⟩⟩) (⟨rfl, trivial⟩)) ?_
            refine awp_seq ?_
            refine awp_region ?_
            refine al_pure rfl rfl rfl (pure_move rfl (fun _ => rfl)) ?_
            refine al_lenS rfl rfl rfl rfl rfl (fun _ => rfl) (Try.underlying9) ?_ (fun hh => by simp at hh); intro hlen
            refine al_pure rfl rfl rfl (pure_convInt rfl (fun _ => rfl) ⟨_, Try.underlying3⟩ (Try.underlying5) (IntWalk.u8_in _ (by omega))) ?_
            refine al_bwb bds (c := UInt8.ofNat (rec ((t.getD i.toNat default).fields.getD k default).n (v.kids.getD k default)).length) rfl rfl rfl rfl rfl rfl (by exact u8_nat (by omega) (by omega)) rfl rfl (by (try simp only [List.length_append, List.length_singleton]); omega) ?_
            refine al_nil ?_
            refine awp_region ?_
            refine al_pure rfl rfl rfl (pure_move rfl (fun _ => rfl)) ?_
            refine al_bws bds rfl rfl rfl rfl rfl rfl rfl rfl (by (try simp only [List.length_append, List.length_singleton]); omega) ?_
            refine al_nil ?_
            refine awp_sub (s := { t := [(0, _, _), (5, _, _), (7, _, _), (16, _, _), (17, _, _), (18, _, _)], bx := [((.bd 405509 7), _), ((.l 5), _)], ow := [((.b (.bd 405509 7) 1), _)] }) (sub_mk (⟨⟨_, rfl, rfl⟩, ⟨⟨_, rfl, rfl⟩, ⟨⟨_, rfl, rfl⟩, ⟨⟨_, rfl, rfl⟩, ⟨⟨_, rfl, rfl⟩, ⟨⟨_, rfl, rfl⟩, trivial⟩⟩⟩⟩⟩⟩) (⟨⟨_, rfl, rfl⟩, ⟨⟨_, rfl, rfl⟩, trivial⟩⟩) (⟨rfl, trivial⟩)) ?_
            refine awp_region ?_
            refine al_pure rfl rfl rfl (pure_arith rfl rfl (fun _ => rfl) (fun _ => rfl) rfl (IntWalk.i64_in _ (by omega))) ?_
            refine al_pure rfl rfl rfl (pure_move rfl (fun _ => rfl)) ?_
            refine al_nil ?_
            refine ⟨k + 1, ?_, ?_, sub_mk (⟨⟨_, rfl, ?_⟩, ⟨⟨_, rfl, rfl⟩, ⟨⟨_, rfl, rfl⟩, ⟨⟨_, rfl, rfl⟩, ⟨⟨_, rfl, rfl⟩, ⟨⟨_, rfl, rfl⟩, trivial⟩⟩⟩⟩⟩⟩) (⟨⟨_, rfl, ?_⟩, ⟨⟨_, rfl, rfl⟩, trivial⟩⟩) (⟨rfl, trivial⟩)⟩
            all_goals (first | omega | rfl | (refine bdc ?_; rw [hT]; unfold encF; simp only [*, if_true, if_false, List.append_assoc, List.singleton_append] <;> rfl))
          · try simp only [n1, n2, n3, n4, n5, n6, n7, n8, n9, n10, n11, n12, n13, n14, n15, n16, Fd.rows_len, Fm.rows_len, V.rows_len] at hc4
            refine awp_region ?_
            refine al_pure rfl rfl rfl (pure_fieldPtr rfl (fun _ => rfl) rfl rfl) ?_
            refine al_pure rfl rfl rfl (pure_loadBox rfl (fun _ => rfl) rfl rfl rfl rfl) ?_
            refine al_bws bds rfl rfl rfl rfl rfl rfl rfl rfl (by (try simp only [List.length_append, List.length_singleton]); omega) ?_
            refine al_nil ?_
            refine awp_sub (s := { t := [(0, _, _), (5, _, _), (7, _, _), (16, _, _), (17, _, _), (18, _, _)], bx := [((.bd 405509 7), _), ((.l 5), _)], ow := [((.b (.bd 405509 7) 1), _)] }) (sub_mk (⟨⟨_, rfl, rfl⟩, ⟨⟨_, rfl, rfl⟩, ⟨⟨_, rfl, rfl⟩, ⟨⟨_, rfl, rfl⟩, ⟨⟨_, rfl, rfl⟩, ⟨⟨_, rfl, rfl⟩, trivial⟩⟩⟩⟩⟩⟩) (⟨⟨_, rfl, rfl⟩, ⟨⟨_, rfl, rfl⟩, trivial⟩⟩) (⟨rfl, trivial⟩)) ?_
            refine awp_region ?_
            refine al_pure rfl rfl rfl (pure_arith rfl rfl (fun _ => rfl) (fun _ => rfl) rfl (IntWalk.i64_in _ (by omega))) ?_
            refine al_pure rfl rfl rfl (pure_move rfl (fun _ => rfl)) ?_
            refine al_nil ?_
            refine ⟨k + 1, ?_, ?_, sub_mk (⟨⟨_, rfl, ?_⟩, ⟨⟨_, rfl, rfl⟩, ⟨⟨_, rfl, rfl⟩, ⟨⟨_, rfl, rfl⟩, ⟨⟨_, rfl, rfl⟩, ⟨⟨_, rfl, rfl⟩, trivial⟩⟩⟩⟩⟩⟩) (⟨⟨_, rfl, ?_⟩, ⟨⟨_, rfl, rfl⟩, trivial⟩⟩) (⟨rfl, trivial⟩)⟩
            all_goals (first | omega | rfl | (refine bdc ?_; rw [hT]; unfold encF; simp only [*, if_true, if_false, List.append_assoc, List.singleton_append] <;> rfl))
  · try simp only [n1, n2, n3, n4, n5, n6, n7, n8, n9, n10, n11, n12, n13, n14, n15, n16, Fd.rows_len, Fm.rows_len, V.rows_len] at hc
    refine awp_exit ?_
    repeat (first | refine thenS_exit ?_ | refine blockS_hit ?_ | refine blockS_miss rfl ?_)
    refine awp_seq ?_
    refine awp_region ?_
    refine al_bst bds rfl rfl rfl rfl rfl rfl rfl rfl ?_
    refine al_pure rfl rfl rfl (pure_assign rfl (fun _ => rfl)) ?_
    refine al_nil ?_
    refine awp_ret ?_
    repeat (first | refine thenS_ret ?_ | refine blockS_ret ?_)
    refine ret_ok rfl ?_ trivial
    have : k = (t.getD i.toNat default).fields.length := by omega
    rw [this, List.take_length, ← hkl, List.take_length]
    rfl
end Go.Proofs.Ytgjclggjkhapfaa
/- Contracts: Encode, on both sides. -/
set_option linter.unusedVariables false
set_option linter.unusedSimpArgs false
namespace Go.Proofs.Ytgjclggjkhapfaa
open Go Go.Abs
theorem encL_lenB {B : Nat} {rec : Int → V → List UInt8} : ∀ {fs : List Fd} {vs : List V}, (∀ k, k < fs.length → k < vs.length → (encF rec (fs.getD k default) (vs.getD k default)).length ≤ B) → (encL rec fs vs).length ≤ B * fs.length
  | [], _, _ => by simp [encL]
  | _ :: _, [], _ => by simp [encL]
  | f :: fs, v :: vs, h => by
    have h0 := h 0 (by simp) (by simp)
    have ih := encL_lenB (rec := rec) (fs := fs) (vs := vs) fun k h1 h2 => by have := h (k + 1) (by simpa using h1) (by simpa using h2); simpa using this
    simp only [List.getD_cons_zero] at h0
    simp only [encL, List.length_append, List.length_cons, Nat.mul_add]; omega
theorem valG_ok {rec : Int → V → Int} {t : List Fm} {i : Int} {v : V} (h : valG rec t i v = 0) : v.bytes = [] ∧ v.number = 0 ∧ v.kids.length = (t.getD i.toNat default).fields.length ∧
    ∀ k, k < (t.getD i.toNat default).fields.length → fvE rec ((t.getD i.toNat default).fields.getD k default) (v.kids.getD k default) = 0 := by
  unfold valG at h
  split at h
  · simp at h
  · rename_i h1
    split at h
    · simp at h
    · rename_i h2
      have h2 := Decidable.not_not.1 h2
      refine ⟨Decidable.not_not.1 fun q => h1 (.inl q), Decidable.not_not.1 fun q => h1 (.inr q), h2, fun k hk => kidsE_zero h k hk (by omega)⟩
theorem fvE_five {rec : Int → V → Int} {f : Fd} {v : V} (h5 : f.kind = 5) (h : fvE rec f v = 0) : rec f.n v = 0 := by
  unfold fvE at h
  have h1 : fitsB f v = true := by simp [fitsB, h5]
  have h2 : rngB f v = true := by simp [rngB, h5]
  rw [h1, h2] at h
  simpa [h5] using h
theorem vok_plain {t : List Fm} {i : Int} {v : V} (hp : Plain1 (t.getD i.toNat default).fields) (h : val0 t i v = 0) (k : Nat) (hk : k < (t.getD i.toNat default).fields.length) : VOk ((t.getD i.toNat default).fields.getD k default) (v.kids.getD k default) :=
  fvE_ok (hp.ok k hk).1 ((valG_ok h).2.2.2 k hk) fun h5 => absurd h5 (hp.ok k hk).2.1
theorem vok_fds {t : List Fm} {i : Int} {v : V} (hf : Fds t (t.getD i.toNat default).fields) (h : valT t i v = 0) (k : Nat) (hk : k < (t.getD i.toNat default).fields.length) : VOk ((t.getD i.toNat default).fields.getD k default) (v.kids.getD k default) :=
  fvE_ok (hf.ok k hk) ((valG_ok h).2.2.2 k hk) fun h5 => (valG_ok (fvE_five h5 ((valG_ok h).2.2.2 k hk))).1
theorem enc0_len {t : List Fm} {i : Int} {v : V} (hp : Plain1 (t.getD i.toNat default).fields) (h : val0 t i v = 0) : (enc0 t i v).length ≤ 96 := by
  have := encL_lenB (B := 16) (rec := fun _ _ => []) (fs := (t.getD i.toNat default).fields) (vs := v.kids) fun k hk _ => by
    obtain ⟨w1, w3, w2, w4⟩ := vok_plain hp h k hk
    obtain ⟨h1, h2, h3, h4, h5, h6, _⟩ := (hp.ok k hk).1
    have h7 := (hp.ok k hk).2
    unfold encF
    split
    · omega
    · split
      · simp only [List.length_cons]; omega
      · split
        · simp
        · split
          · omega
          · have : ((t.getD i.toNat default).fields.getD k default).kind = 2 := by omega
            have := w2 this
            omega
  have := hp.len
  unfold enc0; omega
theorem encT_len {t : List Fm} {i : Int} {v : V} (hf : Fds t (t.getD i.toNat default).fields) (h : valT t i v = 0) : (encT t i v).length ≤ 12000 := by
  have := encL_lenB (B := 2000) (rec := enc0 t) (fs := (t.getD i.toNat default).fields) (vs := v.kids) fun k hk _ => by
    obtain ⟨w1, w3, w2, w4⟩ := vok_fds hf h k hk
    obtain ⟨h1, h2, h3, h4, h5, h6, _⟩ := hf.ok k hk
    unfold encF
    split
    · omega
    · split
      · simp only [List.length_cons]; omega
      · split
        · simp
        · split
          · rename_i q
            have := enc0_len (hf.nest k hk q).2 (fvE_five q ((valG_ok h).2.2.2 k hk))
            simp only [List.length_cons]; omega
          · omega
  have := hf.len
  unfold encT; omega
theorem encode_spec (t : List Fm) (i : Int) (v : V) (hi : 0 ≤ i ∧ i < t.length) (hf : Fds t (t.getD i.toNat default).fields) (hv : valT t i v = 0) :
    Ctr sys 35 [xtab t, xi i, xv v] [] (xs (encT t i v)) none [] := by
  have hk := valG_ok hv
  refine encode_gen t i v (enc0 t) hi hf.len.2 hk.2.2.1 hf.ok (vok_fds hf hv) (fun k hk' h5 => by have := enc0_len (hf.nest k hk' h5).2 (fvE_five h5 (hk.2.2.2 k hk')); omega) fun k hk' h5 => ?_
  obtain ⟨q1, q2⟩ := hf.nest k hk' h5
  have q3 := (hf.ok k hk').n
  have q4 : val0 t ((t.getD i.toNat default).fields.getD k default).n (v.kids.getD k default) = 0 := fvE_five h5 (hk.2.2.2 k hk')
  exact encode_gen t _ _ (fun _ _ => []) (by omega) q2.len.2 (valG_ok q4).2.2.1 (fun j hj => (q2.ok j hj).1) (vok_plain q2 q4) (fun j hj h6 => absurd h6 (q2.ok j hj).2.1) fun j hj h6 => absurd h6 (q2.ok j hj).2.1
theorem text_gen (t : List Fm) (i : Int) (v : V) (rec : Int → V → List UInt8) (hi : 0 ≤ i ∧ i < t.length) (hl6 : (t.getD i.toNat default).fields.length ≤ 6) (hkl : v.kids.length = (t.getD i.toNat default).fields.length)
    (hfd : ∀ k, k < (t.getD i.toNat default).fields.length → FdOk ((t.getD i.toNat default).fields.getD k default))
    (hv : ∀ k, k < (t.getD i.toNat default).fields.length → VOk ((t.getD i.toNat default).fields.getD k default) (v.kids.getD k default))
    (hln : ∀ k, k < (t.getD i.toNat default).fields.length → ((t.getD i.toNat default).fields.getD k default).kind = 5 → (rec ((t.getD i.toNat default).fields.getD k default).n (v.kids.getD k default)).length ≤ 255)
    (hrec : ∀ k, k < (t.getD i.toNat default).fields.length → ((t.getD i.toNat default).fields.getD k default).kind = 5 → Ctr sys 36 [xtab t, xi ((t.getD i.toNat default).fields.getD k default).n, xv (v.kids.getD k default)] [] (xs (rec ((t.getD i.toNat default).fields.getD k default).n (v.kids.getD k default))) none []) :
    Ctr sys 36 [xtab t, xi i, xv v] [] (xs (encL rec (t.getD i.toNat default).fields v.kids)) none [] := by
  have hr := V.rows_len v.kids
  have hrl := Fm.rows_len t
  have hrf := Fd.rows_len (t.getD i.toNat default).fields
  have hel : ∀ k, k ≤ (t.getD i.toNat default).fields.length → (encL rec ((t.getD i.toNat default).fields.take k) (v.kids.take k)).length ≤ 12000 := by
    intro k hk
    have := encL_len (rec := rec) (fs := (t.getD i.toNat default).fields.take k) (vs := v.kids.take k) fun j h1 h2 => by
      simp only [List.length_take] at h1 h2
      rw [getD_take _ _ (by omega), getD_take _ _ (by omega)]
      obtain ⟨w1, w2, w3, w4⟩ := hv j (by omega)
      have w5 := (hfd j (by omega)).bytes
      have w6 := hln j (by omega)
      unfold encF
      split
      · omega
      · split
        · simp only [List.length_cons]; omega
        · split
          · simp only [List.length_cons, List.length_nil]; omega
          · split
            · rename_i q; have := w6 q; simp only [List.length_cons]; omega
            · omega
    simp only [List.length_take] at this
    omega
  refine spec_intro Try.func36 rfl rfl rfl rfl rfl rfl ?_
  refine awp_seq ?_
  refine awp_region ?_
  refine al_do rfl (does_box rfl rfl rfl rfl) ?_
  refine al_pure rfl rfl rfl (pure_assign rfl (fun _ => rfl)) ?_
  refine al_nil ?_
  refine awp_seq ?_
  refine awp_region ?_
  refine al_pure rfl rfl rfl (pure_assign rfl (fun _ => rfl)) ?_
  refine al_nil ?_
  refine awp_seq ?_
  refine awp_seq ?_
  refine awp_region ?_
  refine al_pure rfl rfl rfl (pure_assign rfl (fun _ => rfl)) ?_
  refine al_nil ?_
  refine awp_block ?_
  refine awp_for (ι := Nat) { t := [(0, _, _), (1, _, _), (5, _, _)], bx := [((.l 5), _)], ow := [] } (fun k => [(8, true, xi (k : Int)), (7, true, xs (encL rec ((t.getD i.toNat default).fields.take k) (v.kids.take k)))]) (fun k => []) (fun k => k ≤ (t.getD i.toNat default).fields.length) (fun k => (t.getD i.toNat default).fields.length - k) (0) (by simp) (sub_mk (⟨⟨_, rfl, rfl⟩, ⟨⟨_, rfl, rfl⟩, ⟨⟨_, rfl, rfl⟩, ⟨⟨_, rfl, rfl⟩, ⟨⟨_, rfl, rfl⟩, trivial⟩⟩⟩⟩⟩) (⟨⟨_, rfl, rfl⟩, trivial⟩) trivial) ?_
  intro k hok
  dsimp only [List.cons_append, List.nil_append]
  have hek := hel k hok
  refine awp_seq ?_
  refine awp_seq ?_
  refine awp_region ?_
  refine al_pure rfl rfl rfl (pure_move rfl (fun _ => rfl)) ?_
  refine al_pure rfl rfl rfl (pure_fieldPtr rfl (fun _ => rfl) rfl rfl) ?_
  refine al_pure rfl rfl rfl (pure_loadBox rfl (fun _ => rfl) rfl rfl rfl rfl) ?_
  refine al_lenSl rfl rfl rfl rfl rfl (fun _ => rfl) rfl rfl ?_ (fun hh => by simp at hh); intro hlen
  refine al_pure rfl rfl rfl (pure_cmp rfl rfl (fun _ => rfl) (fun _ => rfl) rfl) ?_
  refine al_nil ?_
  refine awp_sub (s := { t := [(0, _, _), (1, _, _), (5, _, _), (7, _, _), (8, _, _), (16, _, _)], bx := [((.l 5), _)], ow := [] }) (sub_mk (⟨⟨_, rfl, rfl⟩, ⟨⟨_, rfl, rfl⟩, ⟨⟨_, rfl, rfl⟩, ⟨⟨_, rfl, rfl⟩, ⟨⟨_, rfl, rfl⟩, ⟨⟨_, rfl, rfl⟩, trivial⟩⟩⟩⟩⟩⟩) (⟨⟨_, rfl, rfl⟩, trivial⟩) trivial) ?_
  refine awp_cond rfl (fun hc => ?_) (fun hc => ?_)
  · try simp only [n1, n2, n3, n4, n5, n6, n7, n8, n9, n10, n11, n12, n13, n14, n15, n16, Fd.rows_len, Fm.rows_len, V.rows_len] at hc
    obtain ⟨w1, w2, w3, w4⟩ := hv k (by omega)
    have w5 := (hfd k (by omega)).bytes
    have w6 := hln k (by omega)
    have hT := encL_take (rec := rec) (fs := (t.getD i.toNat default).fields) (vs := v.kids) (k := k) (by omega) (by omega)
    refine awp_skip ?_
    refine awp_seq ?_
    refine awp_block ?_
    refine awp_seq ?_
    refine awp_drawn' (by kernel_rfl) ?_
    refine dr_pure rfl rfl rfl rfl (pure_move rfl (fun _ => rfl)) ?_
    refine dr_pure rfl rfl rfl rfl (pure_move rfl (fun _ => rfl)) ?_
    refine dr_pure rfl rfl rfl rfl (pure_indexAddr (j := i.toNat) rfl rfl (fun _ => rfl) (fun _ => rfl) rfl rfl (by omega) (fun hh => Fm.rows_at (by omega))) ?_
    refine dr_pure rfl rfl rfl rfl (pure_fieldRo rfl (fun _ => rfl) rfl rfl) ?_
    refine dr_pure rfl rfl rfl rfl (pure_loadRo rfl (fun _ => rfl) rfl rfl rfl) ?_
    refine dr_pure rfl rfl rfl rfl (pure_move rfl (fun _ => rfl)) ?_
    refine dr_pure rfl rfl rfl rfl (pure_indexAddr rfl rfl (fun _ => rfl) (fun _ => rfl) rfl rfl rfl (fun hh => Fd.rows_at (by omega))) ?_
    refine dr_pure rfl rfl rfl rfl (pure_loadRoRow rfl (fun _ => rfl) rfl rfl rfl rfl) ?_
    refine dr_pure rfl rfl rfl rfl (pure_fieldPtr rfl (fun _ => rfl) rfl rfl) ?_
    refine dr_load rfl rfl rfl rfl rfl rfl rfl (fun _ => rfl) rfl rfl rfl rfl ?_
    refine dr_pure rfl rfl rfl rfl (pure_move rfl (fun _ => rfl)) ?_
    refine dr_pure rfl rfl rfl rfl (pure_indexAddr rfl rfl (fun _ => rfl) (fun _ => rfl) rfl rfl rfl (fun hh => V.rows_at (by omega))) ?_
    refine dr_pure rfl rfl rfl rfl (pure_loadRoRow rfl (fun _ => rfl) rfl rfl rfl rfl) ?_
    refine dr_alloc rfl rfl rfl rfl rfl rfl rfl ?_
    refine dr_alloc rfl rfl rfl rfl rfl rfl rfl ?_
    refine dr_store rfl rfl rfl rfl rfl rfl rfl rfl rfl rfl rfl rfl ?_
    refine dr_store rfl rfl rfl rfl rfl rfl rfl rfl rfl rfl rfl rfl ?_
    refine dr_nil (by kernel_rfl) ?_
    refine awp_sub (s := { t := [(0, _, _), (1, _, _), (5, _, _), (7, _, _), (8, _, _), (9, _, _), (10, _, _)], bx := [((.l 10), _), ((.l 5), _), ((.l 9), _)], ow := [] }) (sub_mk (⟨⟨_, rfl, rfl⟩, ⟨⟨_, rfl, rfl⟩, ⟨⟨_, rfl, rfl⟩, ⟨⟨_, rfl, rfl⟩, ⟨⟨_, rfl, rfl⟩, ⟨⟨_, rfl, rfl⟩, ⟨⟨_, rfl, rfl⟩, trivial⟩⟩⟩⟩⟩⟩⟩) (⟨⟨_, rfl, rfl⟩, ⟨⟨_, rfl, rfl⟩, ⟨⟨_, rfl, rfl⟩, trivial⟩⟩⟩) trivial) ?_
    refine awp_seq ?_
    refine awp_region ?_
    refine al_pure rfl rfl rfl (pure_fieldPtr rfl (fun _ => rfl) rfl rfl) ?_
    refine al_pure rfl rfl rfl (pure_loadBox rfl (fun _ => rfl) rfl rfl rfl rfl) ?_
    refine al_nil ?_
    refine awp_block ?_
    refine awp_seq ?_
    refine awp_region ?_
    refine al_pure rfl rfl rfl (pure_cmp rfl rfl (fun _ => rfl) (fun _ => rfl) rfl) ?_
    refine al_pure rfl rfl rfl (pure_assign rfl (fun _ => rfl)) ?_
    refine al_nil ?_
    refine awp_cond rfl (fun hc1 => ?_) (fun hc1 => ?_)
    · try simp only [n1, n2, n3, n4, n5, n6, n7, n8, n9, n10, n11, n12, n13, n14, n15, n16, Fd.rows_len, Fm.rows_len, V.rows_len] at hc1
      refine awp_region ?_
      refine al_pure rfl rfl rfl (pure_move rfl (fun _ => rfl)) ?_
      refine al_pure rfl rfl rfl (pure_fieldPtr rfl (fun _ => rfl) rfl rfl) ?_
      refine al_pure rfl rfl rfl (pure_loadBox rfl (fun _ => rfl) rfl rfl rfl rfl) ?_
      refine al_pure rfl rfl rfl (pure_concat rfl rfl (fun _ => rfl) (fun _ => rfl) (by (try simp only [List.length_append, List.length_singleton]); omega)) ?_
      refine al_pure rfl rfl rfl (pure_assign rfl (fun _ => rfl)) ?_
      refine al_nil ?_
      refine awp_sub (s := { t := [(0, _, _), (1, _, _), (5, _, _), (7, _, _), (8, _, _)], bx := [((.l 5), _)], ow := [] }) (sub_mk (⟨⟨_, rfl, rfl⟩, ⟨⟨_, rfl, rfl⟩, ⟨⟨_, rfl, rfl⟩, ⟨⟨_, rfl, rfl⟩, ⟨⟨_, rfl, rfl⟩, trivial⟩⟩⟩⟩⟩) (⟨⟨_, rfl, rfl⟩, trivial⟩) trivial) ?_
      refine awp_region ?_
      refine al_pure rfl rfl rfl (pure_move rfl (fun _ => rfl)) ?_
      refine al_pure rfl rfl rfl (pure_arith rfl rfl (fun _ => rfl) (fun _ => rfl) rfl (IntWalk.i64_in _ (by omega))) ?_
      refine al_pure rfl rfl rfl (pure_assign rfl (fun _ => rfl)) ?_
      refine al_nil ?_
      refine ⟨k + 1, ?_, ?_, sub_mk (⟨⟨_, rfl, ?_⟩, ⟨⟨_, rfl, ?_⟩, ⟨⟨_, rfl, rfl⟩, ⟨⟨_, rfl, rfl⟩, ⟨⟨_, rfl, rfl⟩, trivial⟩⟩⟩⟩⟩) (⟨⟨_, rfl, rfl⟩, trivial⟩) trivial⟩
      all_goals (first | omega | rfl | (refine tx (congrArg xs ?_); rw [hT]; unfold encF; simp only [*, if_true, if_false, List.append_assoc, List.singleton_append] <;> rfl))
    · try simp only [n1, n2, n3, n4, n5, n6, n7, n8, n9, n10, n11, n12, n13, n14, n15, n16, Fd.rows_len, Fm.rows_len, V.rows_len] at hc1
      refine awp_seq ?_
      refine awp_region ?_
      refine al_pure rfl rfl rfl (pure_cmp rfl rfl (fun _ => rfl) (fun _ => rfl) rfl) ?_
      refine al_pure rfl rfl rfl (pure_assign rfl (fun _ => rfl)) ?_
      refine al_nil ?_
      refine awp_sub (s := { t := [(0, _, _), (1, _, _), (5, _, _), (7, _, _), (8, _, _), (9, _, _), (10, _, _), (33, _, _), (44, _, _)], bx := [((.l 10), _), ((.l 5), _), ((.l 9), _)], ow := [] }) (sub_mk (⟨⟨_, rfl, rfl⟩, ⟨⟨_, rfl, rfl⟩, ⟨⟨_, rfl, rfl⟩, ⟨⟨_, rfl, rfl⟩, ⟨⟨_, rfl, rfl⟩, ⟨⟨_, rfl, rfl⟩, ⟨⟨_, rfl, rfl⟩, ⟨⟨_, rfl, rfl⟩, ⟨⟨_, rfl, rfl⟩, trivial⟩⟩⟩⟩⟩⟩⟩⟩⟩) (⟨⟨_, rfl, rfl⟩, ⟨⟨_, rfl, rfl⟩, ⟨⟨_, rfl, rfl⟩, trivial⟩⟩⟩) trivial) ?_
      refine awp_cond rfl (fun hc2 => ?_) (fun hc2 => ?_)
      · try simp only [n1, n2, n3, n4, n5, n6, n7, n8, n9, n10, n11, n12, n13, n14, n15, n16, Fd.rows_len, Fm.rows_len, V.rows_len] at hc2
        refine awp_region ?_
        refine al_pure rfl rfl rfl (pure_move rfl (fun _ => rfl)) ?_
        refine al_pure rfl rfl rfl (pure_fieldPtr rfl (fun _ => rfl) rfl rfl) ?_
        refine al_pure rfl rfl rfl (pure_loadBox rfl (fun _ => rfl) rfl rfl rfl rfl) ?_
        refine al_lenS rfl rfl rfl rfl rfl (fun _ => rfl) (Try.underlying9) ?_ (fun hh => by simp at hh); intro hlen
        refine al_pure rfl rfl rfl (pure_convInt rfl (fun _ => rfl) ⟨_, Try.underlying3⟩ (Try.underlying5) (IntWalk.u8_in _ (by omega))) ?_
        refine al_buildSlice (xs := [_]) rfl rfl rfl rfl rfl rfl rfl rfl rfl (fun _ => rfl) rfl ?_
        refine al_pure rfl rfl rfl (pure_bytesStr (l := [UInt8.ofNat (v.kids.getD k default).bytes.length]) rfl (by exact byte1 (by omega) (by omega)) (fun _ => rfl) Try.underlying48 Try.underlying5 Try.underlying9) ?_
        refine al_pure rfl rfl rfl (pure_concat rfl rfl (fun _ => rfl) (fun _ => rfl) (by (try simp only [List.length_append, List.length_singleton]); omega)) ?_
        refine al_pure rfl rfl rfl (pure_fieldPtr rfl (fun _ => rfl) rfl rfl) ?_
        refine al_pure rfl rfl rfl (pure_loadBox rfl (fun _ => rfl) rfl rfl rfl rfl) ?_
        refine al_pure rfl rfl rfl (pure_concat rfl rfl (fun _ => rfl) (fun _ => rfl) (by (try simp only [List.length_append, List.length_singleton]); omega)) ?_
        refine al_pure rfl rfl rfl (pure_assign rfl (fun _ => rfl)) ?_
        refine al_nil ?_
        refine awp_sub (s := { t := [(0, _, _), (1, _, _), (5, _, _), (7, _, _), (8, _, _)], bx := [((.l 5), _)], ow := [] }) (sub_mk (⟨⟨_, rfl, rfl⟩, ⟨⟨_, rfl, rfl⟩, ⟨⟨_, rfl, rfl⟩, ⟨⟨_, rfl, rfl⟩, ⟨⟨_, rfl, rfl⟩, trivial⟩⟩⟩⟩⟩) (⟨⟨_, rfl, rfl⟩, trivial⟩) trivial) ?_
        refine awp_region ?_
        refine al_pure rfl rfl rfl (pure_move rfl (fun _ => rfl)) ?_
        refine al_pure rfl rfl rfl (pure_arith rfl rfl (fun _ => rfl) (fun _ => rfl) rfl (IntWalk.i64_in _ (by omega))) ?_
        refine al_pure rfl rfl rfl (pure_assign rfl (fun _ => rfl)) ?_
        refine al_nil ?_
        refine ⟨k + 1, ?_, ?_, sub_mk (⟨⟨_, rfl, ?_⟩, ⟨⟨_, rfl, ?_⟩, ⟨⟨_, rfl, rfl⟩, ⟨⟨_, rfl, rfl⟩, ⟨⟨_, rfl, rfl⟩, trivial⟩⟩⟩⟩⟩) (⟨⟨_, rfl, rfl⟩, trivial⟩) trivial⟩
        all_goals (first | omega | rfl | (refine tx (congrArg xs ?_); rw [hT]; unfold encF; simp only [*, if_true, if_false, List.append_assoc, List.singleton_append] <;> rfl))
      · try simp only [n1, n2, n3, n4, n5, n6, n7, n8, n9, n10, n11, n12, n13, n14, n15, n16, Fd.rows_len, Fm.rows_len, V.rows_len] at hc2
        refine awp_seq ?_
        refine awp_region ?_
        refine al_pure rfl rfl rfl (pure_cmp rfl rfl (fun _ => rfl) (fun _ => rfl) rfl) ?_
        refine al_pure rfl rfl rfl (pure_assign rfl (fun _ => rfl)) ?_
        refine al_nil ?_
        refine awp_cond rfl (fun hc3 => ?_) (fun hc3 => ?_)
        · try simp only [n1, n2, n3, n4, n5, n6, n7, n8, n9, n10, n11, n12, n13, n14, n15, n16, Fd.rows_len, Fm.rows_len, V.rows_len] at hc3
          refine awp_region ?_
          refine al_pure rfl rfl rfl (pure_move rfl (fun _ => rfl)) ?_
          refine al_pure rfl rfl rfl (pure_fieldPtr rfl (fun _ => rfl) rfl rfl) ?_
          refine al_pure rfl rfl rfl (pure_loadBox rfl (fun _ => rfl) rfl rfl rfl rfl) ?_
          refine al_pure rfl rfl rfl (pure_convInt rfl (fun _ => rfl) ⟨_, Try.underlying3⟩ (Try.underlying5) (IntWalk.u8_in _ (by omega))) ?_
          refine al_buildSlice (xs := [_]) rfl rfl rfl rfl rfl rfl rfl rfl rfl (fun _ => rfl) rfl ?_
          refine al_pure rfl rfl rfl (pure_bytesStr (l := [UInt8.ofNat (v.kids.getD k default).number.toNat]) rfl (by exact byte1 (by omega) (by omega)) (fun _ => rfl) Try.underlying48 Try.underlying5 Try.underlying9) ?_
          refine al_pure rfl rfl rfl (pure_concat rfl rfl (fun _ => rfl) (fun _ => rfl) (by (try simp only [List.length_append, List.length_singleton]); omega)) ?_
          refine al_pure rfl rfl rfl (pure_assign rfl (fun _ => rfl)) ?_
          refine al_nil ?_
          refine awp_sub (s := { t := [(0, _, _), (1, _, _), (5, _, _), (7, _, _), (8, _, _)], bx := [((.l 5), _)], ow := [] }) (sub_mk (⟨⟨_, rfl, rfl⟩, ⟨⟨_, rfl, rfl⟩, ⟨⟨_, rfl, rfl⟩, ⟨⟨_, rfl, rfl⟩, ⟨⟨_, rfl, rfl⟩, trivial⟩⟩⟩⟩⟩) (⟨⟨_, rfl, rfl⟩, trivial⟩) trivial) ?_
          refine awp_region ?_
          refine al_pure rfl rfl rfl (pure_move rfl (fun _ => rfl)) ?_
          refine al_pure rfl rfl rfl (pure_arith rfl rfl (fun _ => rfl) (fun _ => rfl) rfl (IntWalk.i64_in _ (by omega))) ?_
          refine al_pure rfl rfl rfl (pure_assign rfl (fun _ => rfl)) ?_
          refine al_nil ?_
          refine ⟨k + 1, ?_, ?_, sub_mk (⟨⟨_, rfl, ?_⟩, ⟨⟨_, rfl, ?_⟩, ⟨⟨_, rfl, rfl⟩, ⟨⟨_, rfl, rfl⟩, ⟨⟨_, rfl, rfl⟩, trivial⟩⟩⟩⟩⟩) (⟨⟨_, rfl, rfl⟩, trivial⟩) trivial⟩
          all_goals (first | omega | rfl | (refine tx (congrArg xs ?_); rw [hT]; unfold encF; simp only [*, if_true, if_false, List.append_assoc, List.singleton_append] <;> rfl))
        · try simp only [n1, n2, n3, n4, n5, n6, n7, n8, n9, n10, n11, n12, n13, n14, n15, n16, Fd.rows_len, Fm.rows_len, V.rows_len] at hc3
          refine awp_seq ?_
          refine awp_region ?_
          refine al_pure rfl rfl rfl (pure_cmp rfl rfl (fun _ => rfl) (fun _ => rfl) rfl) ?_
          refine al_pure rfl rfl rfl (pure_assign rfl (fun _ => rfl)) ?_
          refine al_nil ?_
          refine awp_cond rfl (fun hc4 => ?_) (fun hc4 => ?_)
          · try simp only [n1, n2, n3, n4, n5, n6, n7, n8, n9, n10, n11, n12, n13, n14, n15, n16, Fd.rows_len, Fm.rows_len, V.rows_len] at hc4
            refine awp_seq ?_
            refine awp_region ?_
            refine al_pure rfl rfl rfl (pure_move rfl (fun _ => rfl)) ?_
            refine al_pure rfl rfl rfl (pure_fieldPtr rfl (fun _ => rfl) rfl rfl) ?_
            refine al_pure rfl rfl rfl (pure_loadBox rfl (fun _ => rfl) rfl rfl rfl rfl) ?_
            refine al_pure rfl rfl rfl (pure_loadBoxRow rfl (fun _ => rfl) rfl rfl rfl rfl rfl) ?_
            refine al_call rfl rfl rfl rfl rfl rfl (fun _ => rfl) (fun _ => rfl) (hrec k (by omega) (by assumption)) rfl ?_
            refine al_pure rfl rfl rfl (pure_assign rfl (fun _ => rfl)) ?_
            refine al_nil ?_
            refine awp_sub (s := { t := [(0, _, _), (1, _, _), (5, _, _), (7, _, _), (8, _, _), (11, _, _)], bx := [((.l 5), _)], ow := [] }) (sub_mk (⟨⟨_, rfl, rfl⟩, ⟨⟨_, rfl, rfl⟩, ⟨⟨_, rfl, rfl⟩, ⟨⟨_, rfl, rfl⟩, ⟨⟨_, rfl, rfl⟩, ⟨⟨_, rfl, rfl⟩, trivial⟩⟩⟩⟩⟩⟩) (⟨⟨_, rfl, rfl⟩, trivial⟩) trivial) ?_
            refine awp_region ?_
            refine al_pure rfl rfl rfl (pure_move rfl (fun _ => rfl)) ?_
            refine al_pure rfl rfl rfl (pure_move rfl (fun _ => rfl)) ?_
            refine al_lenS rfl rfl rfl rfl rfl (fun _ => rfl) (Try.underlying9) ?_ (fun hh => by simp at hh); intro hlen
            refine al_pure rfl rfl rfl (pure_convInt rfl (fun _ => rfl) ⟨_, Try.underlying3⟩ (Try.underlying5) (IntWalk.u8_in _ (by omega))) ?_
            refine al_buildSlice (xs := [_]) rfl rfl rfl rfl rfl rfl rfl rfl rfl (fun _ => rfl) rfl ?_
            refine al_pure rfl rfl rfl (pure_bytesStr (l := [UInt8.ofNat (rec ((t.getD i.toNat default).fields.getD k default).n (v.kids.getD k default)).length]) rfl (by exact byte1 (by omega) (by omega)) (fun _ => rfl) Try.underlying48 Try.underlying5 Try.underlying9) ?_
            refine al_pure rfl rfl rfl (pure_concat rfl rfl (fun _ => rfl) (fun _ => rfl) (by (try simp only [List.length_append, List.length_singleton]); omega)) ?_
            refine al_pure rfl rfl rfl (pure_move rfl (fun _ => rfl)) ?_
            refine al_pure rfl rfl rfl (pure_concat rfl rfl (fun _ => rfl) (fun _ => rfl) (by (try simp only [List.length_append, List.length_singleton]); omega)) ?_
            refine al_pure rfl rfl rfl (pure_assign rfl (fun _ => rfl)) ?_
            refine al_nil ?_
            refine awp_sub (s := { t := [(0, _, _), (1, _, _), (5, _, _), (7, _, _), (8, _, _)], bx := [((.l 5), _)], ow := [] }) (sub_mk (⟨⟨_, rfl, rfl⟩, ⟨⟨_, rfl, rfl⟩, ⟨⟨_, rfl, rfl⟩, ⟨⟨_, rfl, rfl⟩, ⟨⟨_, rfl, rfl⟩, trivial⟩⟩⟩⟩⟩) (⟨⟨_, rfl, rfl⟩, trivial⟩) trivial) ?_
            refine awp_region ?_
            refine al_pure rfl rfl rfl (pure_move rfl (fun _ => rfl)) ?_
            refine al_pure rfl rfl rfl (pure_arith rfl rfl (fun _ => rfl) (fun _ => rfl) rfl (IntWalk.i64_in _ (by omega))) ?_
            refine al_pure rfl rfl rfl (pure_assign rfl (fun _ => rfl)) ?_
            refine al_nil ?_
            refine ⟨k + 1, ?_, ?_, sub_mk (⟨⟨_, rfl, ?_⟩, ⟨⟨_, rfl, ?_⟩, ⟨⟨_, rfl, rfl⟩, ⟨⟨_, rfl, rfl⟩, ⟨⟨_, rfl, rfl⟩, trivial⟩⟩⟩⟩⟩) (⟨⟨_, rfl, rfl⟩, trivial⟩) trivial⟩
            all_goals (first | omega | rfl | (refine tx (congrArg xs ?_); rw [hT]; unfold encF; simp only [*, if_true, if_false, List.append_assoc, List.singleton_append] <;> rfl))
          · try simp only [n1, n2, n3, n4, n5, n6, n7, n8, n9, n10, n11, n12, n13, n14, n15, n16, Fd.rows_len, Fm.rows_len, V.rows_len] at hc4
            refine awp_region ?_
            refine al_pure rfl rfl rfl (pure_move rfl (fun _ => rfl)) ?_
            refine al_pure rfl rfl rfl (pure_fieldPtr rfl (fun _ => rfl) rfl rfl) ?_
            refine al_pure rfl rfl rfl (pure_loadBox rfl (fun _ => rfl) rfl rfl rfl rfl) ?_
            refine al_pure rfl rfl rfl (pure_concat rfl rfl (fun _ => rfl) (fun _ => rfl) (by (try simp only [List.length_append, List.length_singleton]); omega)) ?_
            refine al_pure rfl rfl rfl (pure_assign rfl (fun _ => rfl)) ?_
            refine al_nil ?_
            refine awp_sub (s := { t := [(0, _, _), (1, _, _), (5, _, _), (7, _, _), (8, _, _)], bx := [((.l 5), _)], ow := [] }) (sub_mk (⟨⟨_, rfl, rfl⟩, ⟨⟨_, rfl, rfl⟩, ⟨⟨_, rfl, rfl⟩, ⟨⟨_, rfl, rfl⟩, ⟨⟨_, rfl, rfl⟩, trivial⟩⟩⟩⟩⟩) (⟨⟨_, rfl, rfl⟩, trivial⟩) trivial) ?_
            refine awp_region ?_
            refine al_pure rfl rfl rfl (pure_move rfl (fun _ => rfl)) ?_
            refine al_pure rfl rfl rfl (pure_arith rfl rfl (fun _ => rfl) (fun _ => rfl) rfl (IntWalk.i64_in _ (by omega))) ?_
            refine al_pure rfl rfl rfl (pure_assign rfl (fun _ => rfl)) ?_
            refine al_nil ?_
            refine ⟨k + 1, ?_, ?_, sub_mk (⟨⟨_, rfl, ?_⟩, ⟨⟨_, rfl, ?_⟩, ⟨⟨_, rfl, rfl⟩, ⟨⟨_, rfl, rfl⟩, ⟨⟨_, rfl, rfl⟩, trivial⟩⟩⟩⟩⟩) (⟨⟨_, rfl, rfl⟩, trivial⟩) trivial⟩
            all_goals (first | omega | rfl | (refine tx (congrArg xs ?_); rw [hT]; unfold encF; simp only [*, if_true, if_false, List.append_assoc, List.singleton_append] <;> rfl))
  · try simp only [n1, n2, n3, n4, n5, n6, n7, n8, n9, n10, n11, n12, n13, n14, n15, n16, Fd.rows_len, Fm.rows_len, V.rows_len] at hc
    refine awp_exit ?_
    repeat (first | refine thenS_exit ?_ | refine blockS_hit ?_ | refine blockS_miss rfl ?_)
    refine awp_seq ?_
    refine awp_region ?_
    refine al_pure rfl rfl rfl (pure_move rfl (fun _ => rfl)) ?_
    refine al_pure rfl rfl rfl (pure_assign rfl (fun _ => rfl)) ?_
    refine al_nil ?_
    refine awp_ret ?_
    repeat (first | refine thenS_ret ?_ | refine blockS_ret ?_)
    refine ret_ok rfl ?_ trivial
    have : k = (t.getD i.toNat default).fields.length := by omega
    rw [this, List.take_length, ← hkl, List.take_length]
    rfl
theorem text_spec (t : List Fm) (i : Int) (v : V) (hi : 0 ≤ i ∧ i < t.length) (hf : Fds t (t.getD i.toNat default).fields) (hv : valT t i v = 0) :
    Ctr sys 36 [xtab t, xi i, xv v] [] (xs (encT t i v)) none [] := by
  have hk := valG_ok hv
  refine text_gen t i v (enc0 t) hi hf.len.2 hk.2.2.1 hf.ok (vok_fds hf hv) (fun k hk' h5 => by have := enc0_len (hf.nest k hk' h5).2 (fvE_five h5 (hk.2.2.2 k hk')); omega) fun k hk' h5 => ?_
  obtain ⟨q1, q2⟩ := hf.nest k hk' h5
  have q3 := (hf.ok k hk').n
  have q4 : val0 t ((t.getD i.toNat default).fields.getD k default).n (v.kids.getD k default) = 0 := fvE_five h5 (hk.2.2.2 k hk')
  exact text_gen t _ _ (fun _ _ => []) (by omega) q2.len.2 (valG_ok q4).2.2.1 (fun j hj => (q2.ok j hj).1) (vok_plain q2 q4) (fun j hj h6 => absurd h6 (q2.ok j hj).2.1) fun j hj h6 => absurd h6 (q2.ok j hj).2.1
abbrev xse (p : List UInt8 × Int) : X := .tup [.c (.s p.1), .c (.i .i64 p.2)]
theorem valE_zero {t : List Fm} {i : Int} {v : V} (h : valE t i v = 0) : ((0 ≤ i ∧ i < t.length) ∧ Fds t (t.getD i.toNat default).fields) ∧ valT t i v = 0 := by
  unfold valE at h
  split at h
  · rename_i h1; exact absurd h h1
  · rename_i h1; exact ⟨errE_fds (Decidable.not_not.1 h1), h⟩
theorem cEncode_spec (t : List Fm) (i : Int) (v : V) : Ctr sys 13 [xtab t, xi i, xv v] [] (xse (encE t i v)) none [] := by
  refine spec_intro Try.func13 rfl rfl rfl rfl rfl rfl ?_
  refine awp_seq ?_
  refine awp_region ?_
  refine al_do rfl (does_box rfl rfl rfl rfl) ?_
  refine al_pure rfl rfl rfl (pure_assign rfl (fun _ => rfl)) ?_
  refine al_pure rfl rfl rfl (pure_assign rfl (fun _ => rfl)) ?_
  refine al_nil ?_
  refine awp_seq ?_
  refine awp_seq ?_
  refine awp_region ?_
  refine al_pure rfl rfl rfl (pure_move rfl (fun _ => rfl)) ?_
  refine al_pure rfl rfl rfl (pure_move rfl (fun _ => rfl)) ?_
  refine al_pure rfl rfl rfl (pure_loadBoxRow rfl (fun _ => rfl) rfl rfl rfl rfl rfl) ?_
  refine al_call rfl rfl rfl rfl rfl rfl (fun _ => rfl) (fun _ => rfl) (cValid_spec _ _ _) rfl ?_
  refine al_pure rfl rfl rfl (pure_assign rfl (fun _ => rfl)) ?_
  refine al_nil ?_
  refine awp_sub (s := { t := [(0, _, _), (1, _, _), (5, _, _), (8, _, _)], bx := [((.l 5), _)], ow := [] }) (sub_mk (⟨⟨_, rfl, rfl⟩, ⟨⟨_, rfl, rfl⟩, ⟨⟨_, rfl, rfl⟩, ⟨⟨_, rfl, rfl⟩, trivial⟩⟩⟩⟩) (⟨⟨_, rfl, rfl⟩, trivial⟩) trivial) ?_
  refine awp_seq ?_
  refine awp_region ?_
  refine al_pure rfl rfl rfl (pure_move rfl (fun _ => rfl)) ?_
  refine al_pure rfl rfl rfl (pure_cmp rfl rfl (fun _ => rfl) (fun _ => rfl) rfl) ?_
  refine al_nil ?_
  refine awp_cond rfl (fun hc => ?_) (fun hc => ?_)
  · try simp only [n1, n2, n3, n4, n5, n6, n7, n8, n9, n10, n11, n12, n13, n14, n15, n16, Fd.rows_len, Fm.rows_len, V.rows_len] at hc
    refine awp_seq ?_
    refine awp_region ?_
    refine al_pure rfl rfl rfl (pure_move rfl (fun _ => rfl)) ?_
    refine al_pure rfl rfl rfl (pure_assign rfl (fun _ => rfl)) ?_
    refine al_pure rfl rfl rfl (pure_assign rfl (fun _ => rfl)) ?_
    refine al_nil ?_
    refine awp_ret ?_
    repeat (first | refine thenS_ret ?_ | refine blockS_ret ?_)
    refine ret_ok rfl ?_ trivial
    (rw [encE, if_pos hc]; rfl)
  · try simp only [n1, n2, n3, n4, n5, n6, n7, n8, n9, n10, n11, n12, n13, n14, n15, n16, Fd.rows_len, Fm.rows_len, V.rows_len] at hc
    have he : valE t i v = 0 := hc
    refine awp_skip ?_
    refine awp_seq ?_
    refine awp_region ?_
    refine al_pure rfl rfl rfl (pure_move rfl (fun _ => rfl)) ?_
    refine al_pure rfl rfl rfl (pure_move rfl (fun _ => rfl)) ?_
    refine al_pure rfl rfl rfl (pure_loadBoxRow rfl (fun _ => rfl) rfl rfl rfl rfl rfl) ?_
    refine al_call rfl rfl rfl rfl rfl rfl (fun _ => rfl) (fun _ => rfl) (encode_spec _ _ _ (valE_zero he).1.1 (valE_zero he).1.2 (valE_zero he).2) rfl ?_
    refine al_pure rfl rfl rfl (pure_assign rfl (fun _ => rfl)) ?_
    refine al_pure rfl rfl rfl (pure_assign rfl (fun _ => rfl)) ?_
    refine al_nil ?_
    refine awp_ret ?_
    repeat (first | refine thenS_ret ?_ | refine blockS_ret ?_)
    refine ret_ok rfl ?_ trivial
    (rw [encE, if_neg (by omega)]; rfl)
theorem rEncode_spec (t : List Fm) (i : Int) (v : V) : Ctr sys 14 [xtab t, xi i, xv v] [] (xse (encE t i v)) none [] := by
  refine spec_intro Try.func14 rfl rfl rfl rfl rfl rfl ?_
  refine awp_seq ?_
  refine awp_region ?_
  refine al_do rfl (does_box rfl rfl rfl rfl) ?_
  refine al_pure rfl rfl rfl (pure_assign rfl (fun _ => rfl)) ?_
  refine al_pure rfl rfl rfl (pure_assign rfl (fun _ => rfl)) ?_
  refine al_nil ?_
  refine awp_seq ?_
  refine awp_seq ?_
  refine awp_region ?_
  refine al_pure rfl rfl rfl (pure_move rfl (fun _ => rfl)) ?_
  refine al_pure rfl rfl rfl (pure_move rfl (fun _ => rfl)) ?_
  refine al_pure rfl rfl rfl (pure_loadBoxRow rfl (fun _ => rfl) rfl rfl rfl rfl rfl) ?_
  refine al_call rfl rfl rfl rfl rfl rfl (fun _ => rfl) (fun _ => rfl) (rVal_spec _ _ _) rfl ?_
  refine al_pure rfl rfl rfl (pure_assign rfl (fun _ => rfl)) ?_
  refine al_nil ?_
  refine awp_sub (s := { t := [(0, _, _), (1, _, _), (5, _, _), (8, _, _)], bx := [((.l 5), _)], ow := [] }) (sub_mk (⟨⟨_, rfl, rfl⟩, ⟨⟨_, rfl, rfl⟩, ⟨⟨_, rfl, rfl⟩, ⟨⟨_, rfl, rfl⟩, trivial⟩⟩⟩⟩) (⟨⟨_, rfl, rfl⟩, trivial⟩) trivial) ?_
  refine awp_seq ?_
  refine awp_region ?_
  refine al_pure rfl rfl rfl (pure_move rfl (fun _ => rfl)) ?_
  refine al_pure rfl rfl rfl (pure_cmp rfl rfl (fun _ => rfl) (fun _ => rfl) rfl) ?_
  refine al_nil ?_
  refine awp_cond rfl (fun hc => ?_) (fun hc => ?_)
  · try simp only [n1, n2, n3, n4, n5, n6, n7, n8, n9, n10, n11, n12, n13, n14, n15, n16, Fd.rows_len, Fm.rows_len, V.rows_len] at hc
    refine awp_seq ?_
    refine awp_region ?_
    refine al_pure rfl rfl rfl (pure_move rfl (fun _ => rfl)) ?_
    refine al_pure rfl rfl rfl (pure_assign rfl (fun _ => rfl)) ?_
    refine al_pure rfl rfl rfl (pure_assign rfl (fun _ => rfl)) ?_
    refine al_nil ?_
    refine awp_ret ?_
    repeat (first | refine thenS_ret ?_ | refine blockS_ret ?_)
    refine ret_ok rfl ?_ trivial
    (rw [encE, if_pos hc]; rfl)
  · try simp only [n1, n2, n3, n4, n5, n6, n7, n8, n9, n10, n11, n12, n13, n14, n15, n16, Fd.rows_len, Fm.rows_len, V.rows_len] at hc
    have he : valE t i v = 0 := hc
    refine awp_skip ?_
    refine awp_seq ?_
    refine awp_region ?_
    refine al_pure rfl rfl rfl (pure_move rfl (fun _ => rfl)) ?_
    refine al_pure rfl rfl rfl (pure_move rfl (fun _ => rfl)) ?_
    refine al_pure rfl rfl rfl (pure_loadBoxRow rfl (fun _ => rfl) rfl rfl rfl rfl rfl) ?_
    refine al_call rfl rfl rfl rfl rfl rfl (fun _ => rfl) (fun _ => rfl) (text_spec _ _ _ (valE_zero he).1.1 (valE_zero he).1.2 (valE_zero he).2) rfl ?_
    refine al_pure rfl rfl rfl (pure_assign rfl (fun _ => rfl)) ?_
    refine al_pure rfl rfl rfl (pure_assign rfl (fun _ => rfl)) ?_
    refine al_nil ?_
    refine awp_ret ?_
    repeat (first | refine thenS_ret ?_ | refine blockS_ret ?_)
    refine ret_ok rfl ?_ trivial
    (rw [encE, if_neg (by omega)]; rfl)
end Go.Proofs.Ytgjclggjkhapfaa
/- Contracts: Same, Few, few. -/
set_option linter.unusedVariables false
set_option linter.unusedSimpArgs false
namespace Go.Proofs.Ytgjclggjkhapfaa
open Go Go.Abs
noncomputable def sameB (a b : V) : Bool := @decide (a = b) (Classical.propDecidable _)
theorem sameB_eq (a : V) : sameB a a = true := by unfold sameB; exact @decide_eq_true _ (Classical.propDecidable _) rfl
theorem sameB_true {a b : V} (h : a = b) : sameB a b = true := by subst h; exact sameB_eq a
theorem sameB_false {a b : V} (h : a ≠ b) : sameB a b = false := by unfold sameB; exact @decide_eq_false _ (Classical.propDecidable _) h
theorem sameB_iff {a b : V} : sameB a b = true ↔ a = b := by
  constructor
  · intro h
    by_cases e : a = b
    · exact e
    · rw [sameB_false e] at h; simp at h
  · exact sameB_true
theorem V.ext' {a b : V} (h1 : a.bytes = b.bytes) (h2 : a.number = b.number) (h3 : a.kids = b.kids) : a = b := by
  cases a; cases b; simp_all [V.bytes, V.number, V.kids]
theorem Same_spec : ∀ (n : Nat) (a b : V), a.size ≤ n → Ctr sys 18 [xv a, xv b] [] (xb (sameB a b)) none [] := by
  intro n
  induction n with
  | zero => intro a b h; have := a.size_pos; omega
  | succ n ih =>
    intro a b h
    have hra := V.rows_len a.kids
    have hrb := V.rows_len b.kids
    refine spec_intro Try.func18 rfl rfl rfl rfl rfl rfl ?_
    refine awp_seq ?_
    refine awp_region ?_
    refine al_do rfl (does_box rfl rfl rfl rfl) ?_
    refine al_do rfl (does_box rfl rfl rfl rfl) ?_
    refine al_pure rfl rfl rfl (pure_assign rfl (fun _ => rfl)) ?_
    refine al_nil ?_
    refine awp_seq ?_
    refine awp_seq ?_
    refine awp_region ?_
    refine al_pure rfl rfl rfl (pure_fieldPtr rfl (fun _ => rfl) rfl rfl) ?_
    refine al_pure rfl rfl rfl (pure_loadBox rfl (fun _ => rfl) rfl rfl rfl rfl) ?_
    refine al_pure rfl rfl rfl (pure_fieldPtr rfl (fun _ => rfl) rfl rfl) ?_
    refine al_pure rfl rfl rfl (pure_loadBox rfl (fun _ => rfl) rfl rfl rfl rfl) ?_
    refine al_pure rfl rfl rfl (pure_cmpS rfl rfl (fun _ => rfl) (fun _ => rfl) rfl) ?_
    refine al_pure rfl rfl rfl (pure_move rfl (fun _ => rfl)) ?_
    refine al_pure rfl rfl rfl (pure_fieldPtr rfl (fun _ => rfl) rfl rfl) ?_
    refine al_pure rfl rfl rfl (pure_loadBox rfl (fun hh => hh) rfl rfl rfl rfl) ?_
    refine al_pure rfl rfl rfl (pure_fieldPtr rfl (fun _ => rfl) rfl rfl) ?_
    refine al_sub (s := { t := [(2, _, _), (3, _, _), (11, _, _), (13, _, _), (14, _, _)], bx := [((.l 2), _), ((.l 3), _)], ow := [] }) (sub_mk (⟨⟨_, rfl, rfl⟩, ⟨⟨_, rfl, rfl⟩, ⟨⟨_, rfl, rfl⟩, ⟨⟨_, rfl, rfl⟩, ⟨⟨_, rfl, rfl⟩, trivial⟩⟩⟩⟩⟩) (⟨⟨_, rfl, rfl⟩, ⟨⟨_, rfl, rfl⟩, trivial⟩⟩) trivial) ?_
    refine al_pure rfl rfl rfl (pure_loadBox rfl (fun hh => hh) rfl rfl rfl rfl) ?_
    refine al_pure rfl rfl rfl (pure_cmp rfl rfl (fun hh => hh) (fun hh => hh) rfl) ?_
    refine al_pure rfl rfl rfl (pure_or rfl rfl (fun _ => rfl) (fun _ hi => gP rfl hi)) ?_
    refine al_pure rfl rfl rfl (pure_move rfl (fun _ => rfl)) ?_
    refine al_pure rfl rfl rfl (pure_fieldPtr rfl (fun _ => rfl) rfl rfl) ?_
    refine al_pure rfl rfl rfl (pure_loadBox rfl (fun hh => hh) rfl rfl rfl rfl) ?_
    refine al_pure rfl rfl rfl (pure_lenSl rfl (fun hh => hh) rfl rfl) ?_
    refine al_pure rfl rfl rfl (pure_fieldPtr rfl (fun _ => rfl) rfl rfl) ?_
    refine al_pure rfl rfl rfl (pure_loadBox rfl (fun hh => hh) rfl rfl rfl rfl) ?_
    refine al_pure rfl rfl rfl (pure_lenSl rfl (fun hh => hh) rfl rfl) ?_
    refine al_pure rfl rfl rfl (pure_cmp rfl rfl (fun hh => hh) (fun hh => hh) rfl) ?_
    refine al_pure rfl rfl rfl (pure_or rfl rfl (fun _ => rfl) (fun _ hi => gP rfl hi)) ?_
    refine al_nil ?_
    refine awp_sub (s := { t := [(2, _, _), (3, _, _), (26, _, _)], bx := [((.l 2), _), ((.l 3), _)], ow := [] }) (sub_mk (⟨⟨_, rfl, rfl⟩, ⟨⟨_, rfl, rfl⟩, ⟨⟨_, rfl, rfl⟩, trivial⟩⟩⟩) (⟨⟨_, rfl, rfl⟩, ⟨⟨_, rfl, rfl⟩, trivial⟩⟩) trivial) ?_
    refine awp_cond rfl (fun hc => ?_) (fun hc => ?_)
    · try simp only [n1, n2, n3, n4, n5, n6, n7, n8, n9, n10, n11, n12, n13, n14, n15, n16, Fd.rows_len, Fm.rows_len, V.rows_len] at hc
      have hne : a ≠ b := by
        intro e; subst e
        rcases hc with (h1 | h1) | h1
        · exact h1 rfl
        · exact h1 rfl
        · exact h1 rfl
      refine awp_seq ?_
      refine awp_region ?_
      refine al_pure rfl rfl rfl (pure_assign rfl (fun _ => rfl)) ?_
      refine al_nil ?_
      refine awp_ret ?_
      repeat (first | refine thenS_ret ?_ | refine blockS_ret ?_)
      refine ret_ok rfl ?_ trivial
      exact xb_eq (sameB_false hne).symm
    · try simp only [n1, n2, n3, n4, n5, n6, n7, n8, n9, n10, n11, n12, n13, n14, n15, n16, Fd.rows_len, Fm.rows_len, V.rows_len] at hc
      have hl : a.kids.length = b.kids.length := by omega
      refine awp_skip ?_
      refine awp_seq ?_
      refine awp_seq ?_
      refine awp_region ?_
      refine al_pure rfl rfl rfl (pure_assign rfl (fun _ => rfl)) ?_
      refine al_nil ?_
      refine awp_block ?_
      refine awp_for (ι := Nat) { t := [(2, _, _), (3, _, _)], bx := [((.l 2), _), ((.l 3), _)], ow := [] } (fun k => [(5, true, xi (k : Int))]) (fun k => []) (fun k => k ≤ a.kids.length ∧ ∀ j, j < k → a.kids.getD j default = b.kids.getD j default) (fun k => a.kids.length - k) (0) (⟨by omega, fun j hj => by omega⟩) (sub_mk (⟨⟨_, rfl, rfl⟩, ⟨⟨_, rfl, rfl⟩, ⟨⟨_, rfl, rfl⟩, trivial⟩⟩⟩) (⟨⟨_, rfl, rfl⟩, ⟨⟨_, rfl, rfl⟩, trivial⟩⟩) trivial) ?_
      intro k hok
      dsimp only [List.cons_append, List.nil_append]
      obtain ⟨hk, hinv⟩ := hok
      refine awp_seq ?_
      refine awp_seq ?_
      refine awp_region ?_
      refine al_pure rfl rfl rfl (pure_move rfl (fun _ => rfl)) ?_
      refine al_pure rfl rfl rfl (pure_fieldPtr rfl (fun _ => rfl) rfl rfl) ?_
      refine al_pure rfl rfl rfl (pure_loadBox rfl (fun _ => rfl) rfl rfl rfl rfl) ?_
      refine al_lenSl rfl rfl rfl rfl rfl (fun _ => rfl) rfl rfl ?_ (fun hh => by simp at hh); intro hlen
      refine al_pure rfl rfl rfl (pure_cmp rfl rfl (fun _ => rfl) (fun _ => rfl) rfl) ?_
      refine al_nil ?_
      refine awp_sub (s := { t := [(2, _, _), (3, _, _), (5, _, _), (31, _, _)], bx := [((.l 2), _), ((.l 3), _)], ow := [] }) (sub_mk (⟨⟨_, rfl, rfl⟩, ⟨⟨_, rfl, rfl⟩, ⟨⟨_, rfl, rfl⟩, ⟨⟨_, rfl, rfl⟩, trivial⟩⟩⟩⟩) (⟨⟨_, rfl, rfl⟩, ⟨⟨_, rfl, rfl⟩, trivial⟩⟩) trivial) ?_
      refine awp_cond rfl (fun hca => ?_) (fun hca => ?_)
      · try simp only [n1, n2, n3, n4, n5, n6, n7, n8, n9, n10, n11, n12, n13, n14, n15, n16, Fd.rows_len, Fm.rows_len, V.rows_len] at hca
        refine awp_skip ?_
        refine awp_seq ?_
        refine awp_block ?_
        refine awp_seq ?_
        refine awp_drawn' (by kernel_rfl) ?_
        refine dr_pure rfl rfl rfl rfl (pure_fieldPtr rfl (fun _ => rfl) rfl rfl) ?_
        refine dr_load rfl rfl rfl rfl rfl rfl rfl (fun _ => rfl) rfl rfl rfl rfl ?_
        refine dr_pure rfl rfl rfl rfl (pure_move rfl (fun _ => rfl)) ?_
        refine dr_pure rfl rfl rfl rfl (pure_indexAddr rfl rfl (fun _ => rfl) (fun _ => rfl) rfl rfl rfl (fun hh => V.rows_at (by first | omega | (simp at hh; omega)))) ?_
        refine dr_pure rfl rfl rfl rfl (pure_loadRoRow rfl (fun _ => rfl) rfl rfl rfl rfl) ?_
        refine dr_pure rfl rfl rfl rfl (pure_fieldPtr rfl (fun _ => rfl) rfl rfl) ?_
        refine dr_load rfl rfl rfl rfl rfl rfl rfl (fun _ => rfl) rfl rfl rfl rfl ?_
        refine dr_pure rfl rfl rfl rfl (pure_move rfl (fun _ => rfl)) ?_
        refine dr_pure rfl rfl rfl rfl (pure_indexAddr rfl rfl (fun _ => rfl) (fun _ => rfl) rfl rfl rfl (fun hh => V.rows_at (by first | omega | (simp at hh; omega)))) ?_
        refine dr_pure rfl rfl rfl rfl (pure_loadRoRow rfl (fun _ => rfl) rfl rfl rfl rfl) ?_
        refine dr_callN rfl rfl rfl rfl rfl rfl rfl (fun _ => rfl) (fun _ => rfl) (ih _ _ (by have := V.size_kid (v := a) (k := k) (by omega); omega)) rfl ?_
        refine dr_pure rfl rfl rfl rfl (pure_not rfl (fun _ => rfl)) ?_
        refine dr_nil (by kernel_rfl) ?_
        refine awp_sub (s := { t := [(2, _, _), (3, _, _), (5, _, _), (45, _, _)], bx := [((.l 2), _), ((.l 3), _)], ow := [] }) (sub_mk (⟨⟨_, rfl, rfl⟩, ⟨⟨_, rfl, rfl⟩, ⟨⟨_, rfl, rfl⟩, ⟨⟨_, rfl, rfl⟩, trivial⟩⟩⟩⟩) (⟨⟨_, rfl, rfl⟩, ⟨⟨_, rfl, rfl⟩, trivial⟩⟩) trivial) ?_
        refine awp_cond rfl (fun hcb => ?_) (fun hcb => ?_)
        · try simp only [n1, n2, n3, n4, n5, n6, n7, n8, n9, n10, n11, n12, n13, n14, n15, n16, Fd.rows_len, Fm.rows_len, V.rows_len] at hcb
          have hne : a ≠ b := by
            intro e; subst e
            rw [sameB_eq] at hcb; simp at hcb
          refine awp_seq ?_
          refine awp_region ?_
          refine al_pure rfl rfl rfl (pure_assign rfl (fun _ => rfl)) ?_
          refine al_nil ?_
          refine awp_ret ?_
          repeat (first | refine thenS_ret ?_ | refine blockS_ret ?_)
          refine ret_ok rfl ?_ trivial
          exact xb_eq (sameB_false hne).symm
        · try simp only [n1, n2, n3, n4, n5, n6, n7, n8, n9, n10, n11, n12, n13, n14, n15, n16, Fd.rows_len, Fm.rows_len, V.rows_len] at hcb
          have hkk := sameB_iff.1 hcb
          refine awp_skip ?_
          refine awp_region ?_
          refine al_pure rfl rfl rfl (pure_move rfl (fun _ => rfl)) ?_
          refine al_pure rfl rfl rfl (pure_arith rfl rfl (fun _ => rfl) (fun _ => rfl) rfl (IntWalk.i64_in _ (by omega))) ?_
          refine al_pure rfl rfl rfl (pure_assign rfl (fun _ => rfl)) ?_
          refine al_nil ?_
          refine ⟨k + 1, ?_, ?_, sub_mk (⟨⟨_, rfl, ?_⟩, ⟨⟨_, rfl, rfl⟩, ⟨⟨_, rfl, rfl⟩, trivial⟩⟩⟩) (⟨⟨_, rfl, rfl⟩, ⟨⟨_, rfl, rfl⟩, trivial⟩⟩) trivial⟩
          · refine ⟨by omega, fun j hj => ?_⟩
            by_cases e : j = k
            · subst e; exact hkk
            · exact hinv j (by omega)
          · omega
          · rfl
      · try simp only [n1, n2, n3, n4, n5, n6, n7, n8, n9, n10, n11, n12, n13, n14, n15, n16, Fd.rows_len, Fm.rows_len, V.rows_len] at hca
        have he : a = b := by
          refine V.ext' hc.1.1 hc.1.2 (List.ext_getElem? fun j => ?_)
          by_cases hj : j < a.kids.length
          · have := hinv j (by omega)
            rw [List.getD_eq_getElem?_getD, List.getD_eq_getElem?_getD, List.getElem?_eq_getElem hj, List.getElem?_eq_getElem (by omega)] at this
            rw [List.getElem?_eq_getElem hj, List.getElem?_eq_getElem (by omega)]
            exact congrArg some this
          · rw [List.getElem?_eq_none (by omega), List.getElem?_eq_none (by omega)]
        refine awp_exit ?_
        repeat (first | refine thenS_exit ?_ | refine blockS_hit ?_ | refine blockS_miss rfl ?_)
        refine awp_seq ?_
        refine awp_region ?_
        refine al_pure rfl rfl rfl (pure_assign rfl (fun _ => rfl)) ?_
        refine al_nil ?_
        refine awp_ret ?_
        repeat (first | refine thenS_ret ?_ | refine blockS_ret ?_)
        refine ret_ok rfl ?_ trivial
        exact xb_eq (sameB_true he).symm
def fewV : Nat → V → Bool
  | 0, _ => false
  | n + 1, v => decide (v.kids.length ≤ 10) && decide (v.bytes.length ≤ 1100) && v.kids.all (fewV n)
theorem fewV_spec : ∀ (n : Nat) (v : V) (ni : Int), ni = n → n ≤ 100 → Ctr sys 12 [xv v, xi ni] [] (xb (fewV n v)) none [] := by
  intro n
  induction n with
  | zero =>
    intro v ni hn _
    subst hn
    refine spec_intro Try.func12 rfl rfl rfl rfl rfl rfl ?_
    refine awp_seq ?_
    refine awp_region ?_
    refine al_do rfl (does_box rfl rfl rfl rfl) ?_
    refine al_pure rfl rfl rfl (pure_assign rfl (fun _ => rfl)) ?_
    refine al_nil ?_
    refine awp_seq ?_
    refine awp_seq ?_
    refine awp_region ?_
    refine al_pure rfl rfl rfl (pure_move rfl (fun _ => rfl)) ?_
    refine al_pure rfl rfl rfl (pure_cmp rfl rfl (fun _ => rfl) (fun _ => rfl) rfl) ?_
    refine al_pure rfl rfl rfl (pure_move rfl (fun _ => rfl)) ?_
    refine al_pure rfl rfl rfl (pure_fieldPtr rfl (fun _ => rfl) rfl rfl) ?_
    refine al_pure rfl rfl rfl (pure_loadBox rfl (fun hh => hh) rfl rfl rfl rfl) ?_
    refine al_pure rfl rfl rfl (pure_lenSl rfl (fun hh => hh) rfl rfl) ?_
    refine al_pure rfl rfl rfl (pure_cmp rfl rfl (fun hh => hh) (fun _ => rfl) rfl) ?_
    refine al_pure rfl rfl rfl (pure_or rfl rfl (fun _ => rfl) (fun _ hi => gP rfl hi)) ?_
    refine al_pure rfl rfl rfl (pure_move rfl (fun _ => rfl)) ?_
    refine al_pure rfl rfl rfl (pure_fieldPtr rfl (fun _ => rfl) rfl rfl) ?_
    refine al_sub (s := { t := [(1, _, _), (2, _, _), (14, _, _), (15, _, _)], bx := [((.l 2), _)], ow := [] }) (sub_mk (⟨⟨_, rfl, rfl⟩, ⟨⟨_, rfl, rfl⟩, ⟨⟨_, rfl, rfl⟩, ⟨⟨_, rfl, rfl⟩, trivial⟩⟩⟩⟩) (⟨⟨_, rfl, rfl⟩, trivial⟩) trivial) ?_
    refine al_pure rfl rfl rfl (pure_loadBox rfl (fun hh => hh) rfl rfl rfl rfl) ?_
    refine al_pure rfl rfl rfl (pure_lenS rfl (fun hh => hh) (Try.underlying9)) ?_
    refine al_pure rfl rfl rfl (pure_cmp rfl rfl (fun hh => hh) (fun _ => rfl) rfl) ?_
    refine al_pure rfl rfl rfl (pure_or rfl rfl (fun _ => rfl) (fun _ hi => gP rfl hi)) ?_
    refine al_nil ?_
    refine awp_cond rfl (fun hc => ?_) (fun hc => ?_)
    · refine awp_seq ?_
      refine awp_region ?_
      refine al_pure rfl rfl rfl (pure_assign rfl (fun _ => rfl)) ?_
      refine al_nil ?_
      refine awp_ret ?_
      repeat (first | refine thenS_ret ?_ | refine blockS_ret ?_)
      refine ret_ok rfl ?_ trivial
      rfl
    · try simp only [n1, n2, n3, n4, n5, n6, n7, n8, n9, n10, n11, n12, n13, n14, n15, n16, Fd.rows_len, Fm.rows_len, V.rows_len] at hc
      exfalso; omega
  | succ n ih =>
    intro v ni hn hn2
    subst hn
    have hr := V.rows_len v.kids
    refine spec_intro Try.func12 rfl rfl rfl rfl rfl rfl ?_
    refine awp_seq ?_
    refine awp_region ?_
    refine al_do rfl (does_box rfl rfl rfl rfl) ?_
    refine al_pure rfl rfl rfl (pure_assign rfl (fun _ => rfl)) ?_
    refine al_nil ?_
    refine awp_seq ?_
    refine awp_seq ?_
    refine awp_region ?_
    refine al_pure rfl rfl rfl (pure_move rfl (fun _ => rfl)) ?_
    refine al_pure rfl rfl rfl (pure_cmp rfl rfl (fun _ => rfl) (fun _ => rfl) rfl) ?_
    refine al_pure rfl rfl rfl (pure_move rfl (fun _ => rfl)) ?_
    refine al_pure rfl rfl rfl (pure_fieldPtr rfl (fun _ => rfl) rfl rfl) ?_
    refine al_pure rfl rfl rfl (pure_loadBox rfl (fun hh => hh) rfl rfl rfl rfl) ?_
    refine al_pure rfl rfl rfl (pure_lenSl rfl (fun hh => hh) rfl rfl) ?_
    refine al_pure rfl rfl rfl (pure_cmp rfl rfl (fun hh => hh) (fun _ => rfl) rfl) ?_
    refine al_pure rfl rfl rfl (pure_or rfl rfl (fun _ => rfl) (fun _ hi => gP rfl hi)) ?_
    refine al_pure rfl rfl rfl (pure_move rfl (fun _ => rfl)) ?_
    refine al_pure rfl rfl rfl (pure_fieldPtr rfl (fun _ => rfl) rfl rfl) ?_
    refine al_sub (s := { t := [(1, _, _), (2, _, _), (14, _, _), (15, _, _)], bx := [((.l 2), _)], ow := [] }) (sub_mk (⟨⟨_, rfl, rfl⟩, ⟨⟨_, rfl, rfl⟩, ⟨⟨_, rfl, rfl⟩, ⟨⟨_, rfl, rfl⟩, trivial⟩⟩⟩⟩) (⟨⟨_, rfl, rfl⟩, trivial⟩) trivial) ?_
    refine al_pure rfl rfl rfl (pure_loadBox rfl (fun hh => hh) rfl rfl rfl rfl) ?_
    refine al_pure rfl rfl rfl (pure_lenS rfl (fun hh => hh) (Try.underlying9)) ?_
    refine al_pure rfl rfl rfl (pure_cmp rfl rfl (fun hh => hh) (fun _ => rfl) rfl) ?_
    refine al_pure rfl rfl rfl (pure_or rfl rfl (fun _ => rfl) (fun _ hi => gP rfl hi)) ?_
    refine al_nil ?_
    refine awp_cond rfl (fun hc => ?_) (fun hc => ?_)
    · try simp only [n1, n2, n3, n4, n5, n6, n7, n8, n9, n10, n11, n12, n13, n14, n15, n16, Fd.rows_len, Fm.rows_len, V.rows_len] at hc
      have hd : ¬ v.kids.length ≤ 10 ∨ ¬ v.bytes.length ≤ 1100 := by omega
      have he : fewV (n + 1) v = false := by
        rw [fewV]
        rcases hd with h | h
        · rw [decide_eq_false h]; rfl
        · rw [decide_eq_false h, Bool.and_false]; rfl
      refine awp_seq ?_
      refine awp_region ?_
      refine al_pure rfl rfl rfl (pure_assign rfl (fun _ => rfl)) ?_
      refine al_nil ?_
      refine awp_ret ?_
      repeat (first | refine thenS_ret ?_ | refine blockS_ret ?_)
      refine ret_ok rfl ?_ trivial
      exact xb_eq he.symm
    · try simp only [n1, n2, n3, n4, n5, n6, n7, n8, n9, n10, n11, n12, n13, n14, n15, n16, Fd.rows_len, Fm.rows_len, V.rows_len] at hc
      have he : fewV (n + 1) v = v.kids.all (fewV n) := by
        rw [fewV, decide_eq_true (by omega), decide_eq_true (by omega)]; rfl
      rw [he]
      refine awp_skip ?_
      refine awp_seq ?_
      refine awp_seq ?_
      refine awp_region ?_
      refine al_pure rfl rfl rfl (pure_assign rfl (fun _ => rfl)) ?_
      refine al_nil ?_
      refine awp_sub (s := { t := [(1, _, _), (2, _, _), (5, _, _)], bx := [((.l 2), _)], ow := [] }) (sub_mk (⟨⟨_, rfl, rfl⟩, ⟨⟨_, rfl, rfl⟩, ⟨⟨_, rfl, rfl⟩, trivial⟩⟩⟩) (⟨⟨_, rfl, rfl⟩, trivial⟩) trivial) ?_
      refine awp_block ?_
      refine awp_for (ι := Nat) { t := [(1, _, _), (2, _, _)], bx := [((.l 2), _)], ow := [] } (fun k => [(5, true, xi (k : Int))]) (fun k => []) (fun k => k ≤ v.kids.length ∧ (v.kids.drop k).all (fewV n) = v.kids.all (fewV n)) (fun k => v.kids.length - k) (0) (by simp) (sub_mk (⟨⟨_, rfl, rfl⟩, ⟨⟨_, rfl, rfl⟩, ⟨⟨_, rfl, rfl⟩, trivial⟩⟩⟩) (⟨⟨_, rfl, rfl⟩, trivial⟩) trivial) ?_
      intro k hok
      dsimp only [List.cons_append, List.nil_append]
      obtain ⟨hk, hinv⟩ := hok
      refine awp_seq ?_
      refine awp_seq ?_
      refine awp_region ?_
      refine al_pure rfl rfl rfl (pure_move rfl (fun _ => rfl)) ?_
      refine al_pure rfl rfl rfl (pure_fieldPtr rfl (fun _ => rfl) rfl rfl) ?_
      refine al_pure rfl rfl rfl (pure_loadBox rfl (fun _ => rfl) rfl rfl rfl rfl) ?_
      refine al_lenSl rfl rfl rfl rfl rfl (fun _ => rfl) rfl rfl ?_ (fun hh => by simp at hh); intro hlen
      refine al_pure rfl rfl rfl (pure_cmp rfl rfl (fun _ => rfl) (fun _ => rfl) rfl) ?_
      refine al_nil ?_
      refine awp_sub (s := { t := [(1, _, _), (2, _, _), (5, _, _), (24, _, _)], bx := [((.l 2), _)], ow := [] }) (sub_mk (⟨⟨_, rfl, rfl⟩, ⟨⟨_, rfl, rfl⟩, ⟨⟨_, rfl, rfl⟩, ⟨⟨_, rfl, rfl⟩, trivial⟩⟩⟩⟩) (⟨⟨_, rfl, rfl⟩, trivial⟩) trivial) ?_
      refine awp_cond rfl (fun hca => ?_) (fun hca => ?_)
      · try simp only [n1, n2, n3, n4, n5, n6, n7, n8, n9, n10, n11, n12, n13, n14, n15, n16, Fd.rows_len, Fm.rows_len, V.rows_len] at hca
        rw [drop_getD (by omega), List.all_cons] at hinv
        refine awp_skip ?_
        refine awp_seq ?_
        refine awp_block ?_
        refine awp_seq ?_
        refine awp_region ?_
        refine al_pure rfl rfl rfl (pure_fieldPtr rfl (fun _ => rfl) rfl rfl) ?_
        refine al_pure rfl rfl rfl (pure_loadBox rfl (fun _ => rfl) rfl rfl rfl rfl) ?_
        refine al_pure rfl rfl rfl (pure_move rfl (fun _ => rfl)) ?_
        refine al_pure rfl rfl rfl (pure_indexAddr rfl rfl (fun _ => rfl) (fun _ => rfl) rfl rfl rfl (fun hh => V.rows_at (by first | omega | (simp at hh; omega)))) ?_
        refine al_pure rfl rfl rfl (pure_loadRoRow rfl (fun _ => rfl) rfl rfl rfl rfl) ?_
        refine al_pure rfl rfl rfl (pure_move rfl (fun _ => rfl)) ?_
        refine al_pure rfl rfl rfl (pure_arith rfl rfl (fun _ => rfl) (fun _ => rfl) rfl (IntWalk.i64_in _ (by omega))) ?_
        refine al_call rfl rfl rfl rfl rfl rfl (fun _ => rfl) (fun _ => rfl) (ih _ _ (by omega) (by omega)) rfl ?_
        refine al_pure rfl rfl rfl (pure_not rfl (fun _ => rfl)) ?_
        refine al_nil ?_
        refine awp_sub (s := { t := [(1, _, _), (2, _, _), (5, _, _), (35, _, _)], bx := [((.l 2), _)], ow := [] }) (sub_mk (⟨⟨_, rfl, rfl⟩, ⟨⟨_, rfl, rfl⟩, ⟨⟨_, rfl, rfl⟩, ⟨⟨_, rfl, rfl⟩, trivial⟩⟩⟩⟩) (⟨⟨_, rfl, rfl⟩, trivial⟩) trivial) ?_
        refine awp_cond rfl (fun hc1 => ?_) (fun hc1 => ?_)
        · try simp only [n1, n2, n3, n4, n5, n6, n7, n8, n9, n10, n11, n12, n13, n14, n15, n16, Fd.rows_len, Fm.rows_len, V.rows_len] at hc1
          refine awp_seq ?_
          refine awp_region ?_
          refine al_pure rfl rfl rfl (pure_assign rfl (fun _ => rfl)) ?_
          refine al_nil ?_
          refine awp_ret ?_
          repeat (first | refine thenS_ret ?_ | refine blockS_ret ?_)
          refine ret_ok rfl ?_ trivial
          exact xb_eq (by grind)
        · try simp only [n1, n2, n3, n4, n5, n6, n7, n8, n9, n10, n11, n12, n13, n14, n15, n16, Fd.rows_len, Fm.rows_len, V.rows_len] at hc1
          refine awp_skip ?_
          refine awp_region ?_
          refine al_pure rfl rfl rfl (pure_move rfl (fun _ => rfl)) ?_
          refine al_pure rfl rfl rfl (pure_arith rfl rfl (fun _ => rfl) (fun _ => rfl) rfl (IntWalk.i64_in _ (by omega))) ?_
          refine al_pure rfl rfl rfl (pure_assign rfl (fun _ => rfl)) ?_
          refine al_nil ?_
          refine ⟨k + 1, ?_, ?_, sub_mk (⟨⟨_, rfl, ?_⟩, ⟨⟨_, rfl, rfl⟩, ⟨⟨_, rfl, rfl⟩, trivial⟩⟩⟩) (⟨⟨_, rfl, rfl⟩, trivial⟩) trivial⟩
          all_goals (first | rfl | omega | grind)
      · try simp only [n1, n2, n3, n4, n5, n6, n7, n8, n9, n10, n11, n12, n13, n14, n15, n16, Fd.rows_len, Fm.rows_len, V.rows_len] at hca
        rw [List.drop_of_length_le (by omega)] at hinv
        refine awp_exit ?_
        repeat (first | refine thenS_exit ?_ | refine blockS_hit ?_ | refine blockS_miss rfl ?_)
        refine awp_seq ?_
        refine awp_region ?_
        refine al_pure rfl rfl rfl (pure_assign rfl (fun _ => rfl)) ?_
        refine al_nil ?_
        refine awp_ret ?_
        repeat (first | refine thenS_ret ?_ | refine blockS_ret ?_)
        refine ret_ok rfl ?_ trivial
        exact xb_eq (by rw [← hinv]; rfl)
def few1 (t : List Fm) (s : List UInt8) : Bool := fewT t && decide (s.length ≤ 300)
theorem few_spec (t : List Fm) (s : List UInt8) : Ctr sys 19 [xtab t, xs s] [] (xb (few1 t s)) none [] := by
  refine spec_intro Try.func19 rfl rfl rfl rfl rfl rfl ?_
  refine awp_seq ?_
  refine awp_region ?_
  refine al_pure rfl rfl rfl (pure_assign rfl (fun _ => rfl)) ?_
  refine al_nil ?_
  refine awp_seq ?_
  refine awp_region ?_
  refine al_pure rfl rfl rfl (pure_move rfl (fun _ => rfl)) ?_
  refine al_call rfl rfl rfl rfl rfl rfl (fun _ => rfl) (fun _ => rfl) (Few_spec _) rfl ?_
  refine al_pure rfl rfl rfl (pure_move rfl (fun _ => rfl)) ?_
  refine al_pure rfl rfl rfl (pure_move rfl (fun _ => rfl)) ?_
  refine al_pure rfl rfl rfl (pure_lenS rfl (fun hh => hh) (Try.underlying9)) ?_
  refine al_pure rfl rfl rfl (pure_cmp rfl rfl (fun hh => hh) (fun _ => rfl) rfl) ?_
  refine al_pure rfl rfl rfl (pure_and rfl rfl (fun _ => rfl) (fun _ hi => gP rfl hi)) ?_
  refine al_pure rfl rfl rfl (pure_assign rfl (fun _ => rfl)) ?_
  refine al_nil ?_
  refine awp_ret ?_
  repeat (first | refine thenS_ret ?_ | refine blockS_ret ?_)
  refine ret_ok rfl ?_ trivial
  exact xb_eq (by unfold few1; congr 1; exact decide_eq_decide.2 (by omega))
end Go.Proofs.Ytgjclggjkhapfaa
/- Pure calls; slices that stand in boxes by their value; a closure that sets an element of such a slice. -/
set_option linter.unusedVariables false
set_option linter.unusedSimpArgs false
namespace Go.Abs
variable {Z : Pg}

/-- A function that turns nothing. -/
theorem ctr_pure {f : FuncId} {args : List X} (us : List Value) {res : X} {v : Value} (hen : Enters Z f) (ha : ∀ (w : World) (G : Gh) (vs : List Value), All2 (XRep w G) args vs → vs = us)
    (hc : ∀ w, Calls Z.P f us.toArray w fun e w' => e = .returned v ∧ w' = w) (hr : ∀ w G, XRep w G res v) : Ctr Z f args [] res none [] := by
  refine ⟨hen, fun w G vs hvs hwf hbx hbox hown => ?_⟩
  obtain rfl := ha w G vs hvs
  refine (hc w).mono ?_
  rintro e w' ⟨rfl, rfl⟩
  exact ⟨v, G, rfl, Fr.refl _ _ _, fun _ _ h => h, fun _ _ _ h => h, hwf, hr _ _, fun _ => rfl, fun j cs h => by simp at h, fun sz h => by simp at h, fun b o h => absurd h (hown b o _)⟩

/-! ### Values of slices over boxes -/
def St.val (st : St) (k : Nat) (n : Nm) (sz off len : Nat) (u : Value) : St := { st with t := (k, true, .v (.msv n sz off len u)) :: st.t }
theorem Rel.val {E : Env} {G : Gh} {st : St} {a : Act} {w : World} (h : Rel E G st a w) {k sz off len : Nat} {n : Nm} (hs : st.get k = some (true, .v (.ms n sz off len))) (hl : 0 < len) : ∃ u, Rel E G (st.val k n sz off len u) a w := by
  obtain ⟨v, hv, hv1, _⟩ := h.tm _ _ _ hs
  refine ⟨v, { df := h.df, tm := ?_, bx := h.bx, ow := h.ow, wf := h.wf, olB := h.olB, olO := h.olO, nt := h.nt, oA := h.oA, im := h.im, im' := h.im', fr := h.fr, hB := h.hB, lo := h.lo, bd := h.bd }⟩
  intro j g x hj
  have hj2 : getT ((k, true, .v (.msv n sz off len v)) :: st.t) j = some (g, x) := hj
  rw [getT_cons] at hj2
  split at hj2
  · rename_i he; subst he
    simp only [Option.some.injEq, Prod.mk.injEq] at hj2
    obtain ⟨rfl, rfl⟩ := hj2
    refine ⟨v, hv, fun _ => ?_, fun hg => by simp at hg⟩
    rcases hv1 rfl with ⟨e, _⟩ | e
    · omega
    · exact ⟨rfl, e⟩
  · exact h.tm _ _ _ hj2
theorem al_val {N : Nat} {ops : Array Oper} {rest : List Oper} {K : St → Prop} {st : St} (k : Nat) {sz off len : Nat} {n : Nm} (hs : st.get k = some (true, .v (.ms n sz off len))) (hl : 0 < len)
    (h : ∀ u, AL Z N ops rest K (st.val k n sz off len u)) : AL Z N ops rest K st := fun E G a w hr hE => by
  obtain ⟨u, hu⟩ := hr.val hs hl
  exact h u E G a w hu hE
def St.same (st : St) (j : Nat) (n : Nm) (sz off len : Nat) : St := { st with t := (j, true, .v (.ms n sz off len)) :: st.t }
theorem Rel.same {E : Env} {G : Gh} {st : St} {a : Act} {w : World} (h : Rel E G st a w) {j k sz off len : Nat} {n : Nm} {u : Value} (hj : st.get j = some (true, .v (.c (.o u)))) (hs : st.get k = some (true, .v (.msv n sz off len u))) :
    Rel E G (st.same j n sz off len) a w := by
  obtain ⟨v, hv, hv1, _⟩ := h.tm _ _ _ hj
  obtain ⟨v', hv', hv2, _⟩ := h.tm _ _ _ hs
  have e1 : v = u := by
    have : CRep w G.S (.o u) v := hv1 rfl
    cases this; rfl
  subst e1
  refine { df := h.df, tm := ?_, bx := h.bx, ow := h.ow, wf := h.wf, olB := h.olB, olO := h.olO, nt := h.nt, oA := h.oA, im := h.im, im' := h.im', fr := h.fr, hB := h.hB, lo := h.lo, bd := h.bd }
  intro i g x hi
  have hj2 : getT ((j, true, .v (.ms n sz off len)) :: st.t) i = some (g, x) := hi
  rw [getT_cons] at hj2
  split at hj2
  · rename_i he; subst he
    simp only [Option.some.injEq, Prod.mk.injEq] at hj2
    obtain ⟨rfl, rfl⟩ := hj2
    refine ⟨v, hv, fun _ => ?_, fun hg => by simp at hg⟩
    obtain ⟨e, q⟩ := hv2 rfl
    subst e
    exact .inr q
  · exact h.tm _ _ _ hj2
theorem al_same {N : Nat} {ops : Array Oper} {rest : List Oper} {K : St → Prop} {st : St} (j k : Nat) {sz off len : Nat} {n : Nm} {u : Value} (hj : st.get j = some (true, .v (.c (.o u)))) (hs : st.get k = some (true, .v (.msv n sz off len u)))
    (h : AL Z N ops rest K (st.same j n sz off len)) : AL Z N ops rest K st := fun E G a w hr hE => h E G a w (hr.same hj hs) hE

/-! ### The closure -/
section
variable {st : St} {ty : TypeId} {gate : Bool}
theorem lkCaps {E : Env} {G : Gh} {a : Act} {w : World} (hr : Rel E G st a w) : ∀ {os : List Operand} {ys : List Y}, (os.map fun o => match o with | .tmp k => (match st.get k with | some (true, .v y) => some y | _ => none) | _ => none) = ys.map some →
    All2 (YRep w G) ys (os.map a.eval)
  | [], [], _ => trivial
  | [], _ :: _, h => by simp at h
  | _ :: _, [], h => by simp at h
  | o :: os, y :: ys, h => by
    simp only [List.map_cons, List.cons.injEq] at h
    refine ⟨?_, lkCaps hr h.2⟩
    have h1 := h.1
    split at h1
    · rename_i k
      split at h1
      · rename_i y' he
        simp only [Option.some.injEq] at h1; subst h1
        exact lk_rep (T := []) (ty := 0) (o := .tmp k) hr he rfl
      · simp at h1
    · simp at h1
theorem pure_makeFunc {f : FuncId} {caps : Array Operand} {ys : List Y} (h : (caps.toList.map fun o => match o with | .tmp k => (match st.get k with | some (true, .v y) => some y | _ => none) | _ => none) = ys.map some) :
    PureOk Z st (.makeFunc (.func f) #[] caps) ty gate (.fn f ys) := by
  intro o E G a w ho _ hr hgt
  refine ⟨.func (.func f) #[] (caps.toList.map a.eval).toArray, ⟨_, rfl, lkCaps hr h⟩, ?_⟩
  have : (caps.toList.map a.eval).toArray = caps.map a.eval := by rw [← Array.toList_map, Array.toArray_toList]
  rw [this]
  simp [execOp, ho, Instr.makeFunc]
end
/-- What the closure does: it sets the element with the index, where the index is not too great. -/
structure SetFn (Z : Pg) (f : FuncId) : Prop where
  en : Enters Z f
  run : ∀ (w : World) (pb po qb qo : Nat) (m n c : Int) (blk off len cap : Nat), w.cell? ⟨pb, po, none⟩ = some (.int .i64 n) → w.cell? ⟨qb, qo, none⟩ = some (.slice (some ⟨blk, off, none⟩) len cap) → 0 ≤ m → (len : Int) = n + 1 → (len : Int) < 9223372036854775807 →
    (∀ j, j < len → (w.cell? ⟨blk, off + j, none⟩).isSome = true) → (∀ j, j < len → w.frozen? ⟨blk, off + j, none⟩ = false) →
    Calls Z.P f #[.int .i64 m, .int .u64 c, .pointer (some ⟨pb, po, none⟩), .pointer (some ⟨qb, qo, none⟩)] w fun e w' => e = .returned (.tuple #[]) ∧ w' = if m ≤ n then w.setCell ⟨blk, off + m.toNat, none⟩ (.int .u64 c) else w
def setIf (cs : List C) (m n c : Int) : List C := if m ≤ n then setAt cs m.toNat [.i .u64 c] else cs
theorem setCells_one (w : World) (b o : Nat) (v : Value) : w.setCells b o [v] = w.setCell ⟨b, o, none⟩ v := rfl
theorem op1_clos {N : Nat} {ops : Array Oper} {st : St} {o : Oper} {d : Nat} {fo x y : Operand} {ts : Array TypeId} {f : FuncId} {a b r q : Nat} {m n c : Int} {len : Nat} {cs : List C} {u : Value} (S : SetFn Z f)
    (ho : o.op = .call { callee := .value fo, args := #[x, y], argTypes := ts }) (hg : gateOf ops st o = some true) (hd : o.dst = some d) (hN : Nat.ble (d + 1) N = true)
    (hf : lk Z.T st 0 fo = some (true, .fn f [.ptr (.l a) 0, .ptr (.l b) 0])) (hxy : lkAll Z.T st ts.toList [x, y] = some (true, [.v (.c (.i .i64 m)), .v (.c (.i .u64 c))]))
    (hba : st.box (.l a) = some [.i .i64 n]) (hbb : st.box (.l b) = some [.o u]) (hq : st.get q = some (true, .v (.msv (.l r) 1 0 len u))) (hbr : st.box (.l r) = some cs) (hl : cs.length = len) (hn : (len : Int) = n + 1) (hm : 0 ≤ m) (hmx : (len : Int) < 9223372036854775807) :
    Op1 Z N ops o st ((st.store (.l r) (setIf cs m n c) m.toNat 1).put d (true, .tup [])) := by
  intro E G ac w hr hE K' Q' hK
  have hdN : d < E.nt := by rw [hE]; exact Nat.le_of_ble_eq_true hN
  rw [wanted_gate hr hg]
  simp only [if_true]
  obtain ⟨cvs, hfv, hcv⟩ := lk_rep hr hf rfl
  match cvs, hcv with
  | [v1, v2], ⟨hv1, hv2, _⟩ =>
  obtain ⟨hx, hy, _⟩ := lkAll_rep hr hxy rfl
  have hx1 := XRep.int hx
  have hy1 := XRep.int hy
  have hv1' : v1 = .pointer (some ⟨(G.A (.l a)).1, (G.A (.l a)).2 + 0, none⟩) := hv1
  have hv2' : v2 = .pointer (some ⟨(G.A (.l b)).1, (G.A (.l b)).2 + 0, none⟩) := hv2
  subst hv1'; subst hv2'
  obtain ⟨uq, _, huq, _⟩ := hr.tm _ _ _ hq
  obtain ⟨e1, cap, _, e2⟩ := huq rfl
  subst e1
  obtain ⟨_, _, va, ha1, ha2⟩ := hr.bx _ _ hba 0 _ rfl
  obtain ⟨_, _, vb, hb1, hb2⟩ := hr.bx _ _ hbb 0 _ rfl
  have ha3 : va = .int .i64 n := by cases ha2; rfl
  have hb3 : vb = uq := by cases hb2; rfl
  subst ha3; subst hb3
  rw [e2] at hb1
  obtain ⟨q1, q2⟩ := cells_there (hr.bx _ _ hbr) (off := 0) (len := len) (by omega)
  have hcall := S.run w (G.A (.l a)).1 ((G.A (.l a)).2 + 0) (G.A (.l b)).1 ((G.A (.l b)).2 + 0) m n c (G.A (.l r)).1 ((G.A (.l r)).2 + 0) len cap ha1 hb1 hm hn hmx
    (fun j hj => by have := q1 j hj; simpa using this) (fun j hj => by have := q2 j hj; simpa using this)
  unfold Oper.wp
  rw [run_call ho hfv S.en, Oper.upon_enter]
  have hargs : ((#[x, y] : Array Operand).toList.map ac.eval ++ [Value.pointer (some ⟨(G.A (.l a)).1, (G.A (.l a)).2 + 0, none⟩), Value.pointer (some ⟨(G.A (.l b)).1, (G.A (.l b)).2 + 0, none⟩)]).toArray =
      #[.int .i64 m, .int .u64 c, .pointer (some ⟨(G.A (.l a)).1, (G.A (.l a)).2 + 0, none⟩), .pointer (some ⟨(G.A (.l b)).1, (G.A (.l b)).2 + 0, none⟩)] := by
    simp [hx1, hy1]
  rw [hargs]
  refine hcall.mono ?_
  rintro e w' ⟨rfl, rfl⟩
  dsimp only
  rw [hd] at hK ⊢
  refine hK G _ _ (Rel.put (st := st.store (.l r) (setIf cs m n c) m.toNat 1) ?_ hdN (g := true) (fun _ => ⟨[], rfl, trivial⟩) (fun hf => by simp at hf))
  unfold setIf
  split
  · rename_i hle
    have := hr.storeAll [.i .u64 c] [.int .u64 c] (n := .l r) (off := m.toNat) hbr (by simp; omega) ⟨CRep.i _ _, trivial⟩ (fun h => by simp [Nm.isBd] at h)
    rw [Nat.add_zero]
    exact this
  · refine Rel.sub (st := st) ⟨fun _ _ x => x, ?_, ?_⟩ hr
    · intro i ds hi
      rw [St.store_box] at hi
      split at hi
      · rename_i he; subst he; rw [hbr]; exact hi
      · exact hi
    · intro p s hp
      rw [St.store_own] at hp
      split at hp
      · simp at hp
      · exact hp
theorem al_clos {N : Nat} {ops : Array Oper} {rest : List Oper} {K : St → Prop} {st : St} {o : Oper} {d : Nat} {fo x y : Operand} {ts : Array TypeId} {f : FuncId} {a b r : Nat} (q : Nat) {m n c : Int} {len : Nat} {cs : List C} {u : Value} (S : SetFn Z f)
    (ho : o.op = .call { callee := .value fo, args := #[x, y], argTypes := ts }) (hg : gateOf ops st o = some true) (hd : o.dst = some d) (hN : Nat.ble (d + 1) N = true)
    (hf : lk Z.T st 0 fo = some (true, .fn f [.ptr (.l a) 0, .ptr (.l b) 0])) (hxy : lkAll Z.T st ts.toList [x, y] = some (true, [.v (.c (.i .i64 m)), .v (.c (.i .u64 c))]))
    (hba : st.box (.l a) = some [.i .i64 n]) (hbb : st.box (.l b) = some [.o u]) (hq : st.get q = some (true, .v (.msv (.l r) 1 0 len u))) (hbr : st.box (.l r) = some cs) (hl : cs.length = len) (hn : (len : Int) = n + 1) (hm : 0 ≤ m) (hmx : (len : Int) < 9223372036854775807)
    (h : AL Z N ops rest K ((st.store (.l r) (setIf cs m n c) m.toNat 1).put d (true, .tup []))) : AL Z N ops (o :: rest) K st :=
  al_op1 (op1_clos S ho hg hd hN hf hxy hba hbb hq hbr hl hn hm hmx) h
theorem dr_clos {N : Nat} {ops : Array Oper} {rest : List Oper} {st : St} {o : Oper} {s0 : St} {B : List Nat} {k : Nat} {acc : List Lnk} {Q : St → Prop} {d : Nat} {fo x y : Operand} {ts : Array TypeId} {f : FuncId} (a b r q : Nat) {m n c : Int} {len : Nat} {cs : List C} {u : Value} {R : Foot} (S : SetFn Z f)
    (hR : R = { foot ops o [.l a, .l b, .l r] [] with rt := q :: slotsOf ops o }) (hk : ops[k]? = some o)
    (ho : o.op = .call { callee := .value fo, args := #[x, y], argTypes := ts }) (hg : gateOf ops (rs R st) o = some true) (hd : o.dst = some d) (hN : Nat.ble (d + 1) N = true)
    (hf : lk Z.T (rs R st) 0 fo = some (true, .fn f [.ptr (.l a) 0, .ptr (.l b) 0])) (hxy : lkAll Z.T (rs R st) ts.toList [x, y] = some (true, [.v (.c (.i .i64 m)), .v (.c (.i .u64 c))]))
    (hba : (rs R st).box (.l a) = some [.i .i64 n]) (hbb : (rs R st).box (.l b) = some [.o u]) (hq : (rs R st).get q = some (true, .v (.msv (.l r) 1 0 len u))) (hbr : (rs R st).box (.l r) = some cs) (hl : cs.length = len) (hn : (len : Int) = n + 1) (hm : 0 ≤ m) (hmx : (len : Int) < 9223372036854775807)
    (hr : Draw Z N s0 ops B (k + 1) rest (acc ++ [(k, { d := some (d, true, .tup []), b := some (.l r, setIf cs m n c), drop := .t d :: cellPls (.l r) m.toNat 1 }, R)]) (ap { d := some (d, true, .tup []), b := some (.l r, setIf cs m n c), drop := .t d :: cellPls (.l r) m.toNat 1 } st) Q) :
    Draw Z N s0 ops B k (o :: rest) acc st Q := by
  refine dr_cons hk (e := { d := some (d, true, .tup []), b := some (.l r, setIf cs m n c), drop := .t d :: cellPls (.l r) m.toNat 1 }) (R := R) ?_ hr (by subst hR; intro n hn; exact absurd hn (List.not_mem_nil))
  intro s2 hag _
  refine (op1_clos S ho (gateOf_sub hag.sub hg) hd hN (lk_sub hag.sub hf) (lkAll_sub hag.sub hxy) (hag.sub.bx _ _ hba) (hag.sub.bx _ _ hbb) (hag.sub.t _ _ hq) (hag.sub.bx _ _ hbr) hl hn hm hmx).sub ⟨?_, ?_, ?_⟩
  · intro j e hj
    rw [ap_get] at hj
    rw [St.put_get]
    simp only [Eff.gt] at hj
    by_cases h : d = j
    · subst h; simpa using hj
    · have h' : ¬ j = d := fun e => h e.symm
      rw [if_neg h']
      show s2.get j = _
      simpa [h] using hj
  · intro m' ds hm'
    rw [ap_box] at hm'
    show (s2.store (.l r) (setIf cs m n c) m.toNat 1).box m' = _
    rw [St.store_box]
    simp only [Eff.gb] at hm'
    split
    · rename_i he; rw [if_pos he] at hm'; exact hm'
    · rename_i he; rw [if_neg he] at hm'; exact hm'
  · intro q' s hq'
    rw [ap_own] at hq'
    rw [St.put_own]
    simp only [Eff.go, List.mem_cons] at hq'
    split
    · rename_i he; rw [if_pos (.inl he)] at hq'; exact hq'
    · rename_i he
      show (s2.store (.l r) (setIf cs m n c) m.toNat 1).own q' = _
      rw [St.store_own]
      split
      · rename_i h3; rw [if_pos (.inr (mem_cellPls.2 h3))] at hq'; exact hq'
      · rename_i h3; rw [if_neg (by rintro (h | h); exact he h; exact h3 (mem_cellPls.1 h))] at hq'; exact hq'
end Go.Abs
/- Slices of numbers that are written element by element. -/
set_option linter.unusedVariables false
set_option linter.unusedSimpArgs false
namespace Go.Abs
variable {Z : Pg}
def arr (k : IntKind) (g : Nat → Int) (n : Nat) : List C := (List.range n).map fun m => C.i k (g m)
def arrR (k : IntKind) (g : Nat → Int) (n : Nat) : List (List C) := (List.range n).map fun m => [C.i k (g m)]
def upd (g : Nat → Int) (j : Nat) (v : Int) : Nat → Int := fun m => if m = j then v else g m
theorem arr_len (k : IntKind) (g : Nat → Int) (n : Nat) : (arr k g n).length = n := by simp [arr]
theorem arrR_len (k : IntKind) (g : Nat → Int) (n : Nat) : (arrR k g n).length = n := by simp [arrR]
theorem arr_get {k : IntKind} {g : Nat → Int} {n j : Nat} (h : j < n) : (arr k g n)[j]? = some (.i k (g j)) := by
  simp [arr, List.getElem?_range h]
theorem arrR_at {k : IntKind} {g : Nat → Int} {n j : Nat} (h : j < n) : (arrR k g n)[j]? = some [.i k (g j)] := by
  simp [arrR, List.getElem?_range h]
theorem arrR_take {k : IntKind} {g : Nat → Int} {n j : Nat} (h : j ≤ n) : (arrR k g n).take j = arrR k g j := by
  simp only [arrR]
  rw [← List.map_take, List.take_range, Nat.min_eq_left h]
theorem arr_at {k : IntKind} {g : Nat → Int} {n j : Nat} (h : j < n) : (arr k g n)[0 + j * 1]? = some (.i k (g j)) := by
  rw [Nat.zero_add, Nat.mul_one]; exact arr_get h
theorem arr_flat (k : IntKind) (g : Nat → Int) (n : Nat) : arr k g n = (arrR k g n).flatten := by
  simp only [arr, arrR]
  induction List.range n with
  | nil => rfl
  | cons a l ih => simp [ih]
theorem arr_ext {k : IntKind} {g g' : Nat → Int} {n : Nat} (h : ∀ m, m < n → g m = g' m) : arr k g n = arr k g' n := by
  apply List.map_congr_left
  intro m hm
  rw [h m (by simpa using hm)]
theorem arrR_ext {k : IntKind} {g g' : Nat → Int} {n : Nat} (h : ∀ m, m < n → g m = g' m) : arrR k g n = arrR k g' n := by
  apply List.map_congr_left
  intro m hm
  rw [h m (by simpa using hm)]
theorem arr_rep (k : IntKind) (n : Nat) : (List.replicate n [C.i k 0]).flatten = arr k (fun _ => 0) n := by
  apply List.ext_getElem?
  intro j
  have : (List.replicate n [C.i k 0]).flatten = List.replicate n (C.i k 0) := by
    induction n with
    | zero => rfl
    | succ n ih => rw [List.replicate_succ, List.replicate_succ, List.flatten_cons, ih]; rfl
  rw [this]
  by_cases h : j < n
  · rw [arr_get h, List.getElem?_replicate, if_pos h]
  · rw [List.getElem?_eq_none (by simp; omega), List.getElem?_eq_none (by rw [arr_len]; omega)]
theorem setAt_arr {k : IntKind} {g : Nat → Int} {n j : Nat} {v : Int} (h : j < n) : setAt (arr k g n) (0 + j * 1) [.i k v] = arr k (upd g j v) n := by
  apply List.ext_getElem?
  intro i
  rw [setAt_get _ _ _ _ (by rw [arr_len]; simp; omega)]
  simp only [Nat.zero_add, Nat.mul_one, List.length_singleton]
  by_cases hi : i < n
  · rw [arr_get hi, arr_get hi]
    split
    · rename_i h1
      have : i = j := by omega
      subst this
      simp [upd]
    · rename_i h1
      have : ¬ i = j := by omega
      simp [upd, this]
  · rw [if_neg (by omega), List.getElem?_eq_none (by rw [arr_len]; omega), List.getElem?_eq_none (by rw [arr_len]; omega)]
theorem setIf_arr {g : Nat → Int} {n : Nat} {m N c : Int} (hm : 0 ≤ m) (hN : (n : Int) = N + 1) : setIf (arr .u64 g n) m N c = arr .u64 (fun j => if (j : Int) = m then c else g j) n := by
  unfold setIf
  split
  · rename_i h
    have h1 := setAt_arr (k := .u64) (g := g) (n := n) (j := m.toNat) (v := c) (by omega)
    rw [Nat.zero_add, Nat.mul_one] at h1
    rw [h1]
    apply arr_ext
    intro j hj
    unfold upd
    by_cases e : (j : Int) = m
    · rw [if_pos (by omega), if_pos e]
    · rw [if_neg (by omega), if_neg e]
  · rename_i h
    apply arr_ext
    intro j hj
    rw [if_neg (by omega)]
section
variable {N : Nat} {ops : Array Oper} {rest : List Oper} {K : St → Prop} {st : St} {o : Oper} {d : Nat} {ty : TypeId}
theorem does_makeArr {t e by' : Nat} {x y : Operand} {ti te : TyI} {n : Nat} {m : Int} {k ke : IntKind} (hx : lk Z.T st ty x = some (true, .v (.c (.i k m)))) (hy : lk Z.T st ty y = some (true, .v (.c (.i k m))))
    (ht : tyAt Z.T t = some ti) (hel : ti.el = some (e, 1, by')) (hte : tyAt Z.T e = some te) (hz : te.z = [.i ke 0]) (hN : Nat.ble (d + 1) N = true) (hfr : st.fresh (.l d) = true) (hm : m = (n : Int)) (hbig : n * by' ≤ 140737488355328) (hmax : n ≤ 9223372036854775807) :
    Does Z N st (some d) (.makeSlice t x y) ty ((st.addBox (.l d) (arr ke (fun _ => 0) n)).put d (true, .v (.ms (.l d) 1 0 n))) := by
  have := does_makeMs (n := n) hx hy ht hel hte hN hfr hm hbig hmax
  rw [hz, arr_rep] at this
  exact this
theorem does_storeArr {t : TypeId} {x v : Operand} {n : Nm} {j len : Nat} {k : IntKind} {g : Nat → Int} {c : Int} {ti : TyI} (hx : lk Z.T st t x = some (true, .v (.ptr n (0 + j * 1)))) (hv : lk Z.T st t v = some (true, .v (.c (.i k c))))
    (hb : st.box n = some (arr k g len)) (ht : tyAt Z.T t = some ti) (hn : ti.n = 1) (hj : j < len) (hnb : (!n.isBd || !Nat.beq (0 + j * 1) 0) = true) :
    Does Z N st none (.store t x v) ty (st.store n (arr k (upd g j c) len) (0 + j * 1) 1) := by
  have := does_store (Z := Z) (N := N) (ty := ty) hx hv (ds := [.i k c]) rfl hb ht (by rw [hn]; rfl) (Nat.ble_eq_true_of_le (by rw [arr_len]; simp; omega)) hnb
  rw [setAt_arr hj] at this
  exact this
end
section
variable {N : Nat} {ops : Array Oper} {rest : List Oper} {st : St} {o : Oper} {s0 : St} {B : List Nat} {q : Nat} {acc : List Lnk} {Q : St → Prop}
theorem dr_storeArr {t : TypeId} {x v : Operand} {n : Nm} {j len : Nat} {k : IntKind} {g : Nat → Int} {c : Int} {ti : TyI} (hk : ops[q]? = some o) (ho : o.op = .store t x v) (hx0 : lk Z.T st t x = some (true, .v (.ptr n (0 + j * 1)))) (hg : gateOf ops (rs (foot ops o [n] []) st) o = some true) (hd : o.dst = none)
    (hx : lk Z.T (rs (foot ops o [n] []) st) t x = some (true, .v (.ptr n (0 + j * 1)))) (hv : lk Z.T (rs (foot ops o [n] []) st) t v = some (true, .v (.c (.i k c))))
    (hb : (rs (foot ops o [n] []) st).box n = some (arr k g len)) (ht : tyAt Z.T t = some ti) (hn : ti.n = 1) (hj : j < len) (hnb : (!n.isBd || !Nat.beq (0 + j * 1) 0) = true)
    (hr : Draw Z N s0 ops B (q + 1) rest (acc ++ [(q, { b := some (n, arr k (upd g j c) len), drop := cellPls n (0 + j * 1) 1 }, foot ops o [n] [])]) (ap { b := some (n, arr k (upd g j c) len), drop := cellPls n (0 + j * 1) 1 } st) Q) :
    Draw Z N s0 ops B q (o :: rest) acc st Q := by
  refine dr_store hk ho hx0 hg hd hx hv (ds := [.i k c]) rfl hb ht (by rw [hn]; rfl) (Nat.ble_eq_true_of_le (by rw [arr_len]; simp; omega)) ?_ hnb
  rw [setAt_arr hj]
  exact hr
end
theorem awp_freezeArr {N : Nat} {c : Code} {Q : Exit → St → Prop} {st : St} (k m : Nat) {L : Nat} {kd : IntKind} {g : Nat → Int} (hs : st.get k = some (true, .v (.ms (.l m) 1 0 L)))
    (hb : st.box (.l m) = some (arr kd g L)) (hm : L ≤ 9223372036854775807) (hfo : st.freshO (.l m, false) = true)
    (h : AWP Z N c Q (st.frz k m 1 (arrR kd g L))) : AWP Z N c Q st :=
  awp_freeze k m (arrR kd g L) hs (by rw [hb, arr_flat]) (arrR_len _ _ _) hm (fun i row hi => by
    simp only [arrR, List.getElem?_map] at hi
    cases hr : (List.range L)[i]? with
    | none => rw [hr] at hi; simp at hi
    | some x => rw [hr] at hi; simp at hi; subst hi; rfl) hfo h
theorem al_freezeArr {N : Nat} {ops : Array Oper} {rest : List Oper} {K : St → Prop} {st : St} (k m : Nat) {L : Nat} {kd : IntKind} {g : Nat → Int} (hs : st.get k = some (true, .v (.ms (.l m) 1 0 L)))
    (hb : st.box (.l m) = some (arr kd g L)) (hm : L ≤ 9223372036854775807) (hfo : st.freshO (.l m, false) = true)
    (h : AL Z N ops rest K (st.frz k m 1 (arrR kd g L))) : AL Z N ops rest K st :=
  al_freeze k m (arrR kd g L) hs (by rw [hb, arr_flat]) (arrR_len _ _ _) hm (fun i row hi => by
    simp only [arrR, List.getElem?_map] at hi
    cases hr : (List.range L)[i]? with
    | none => rw [hr] at hi; simp at hi
    | some x => rw [hr] at hi; simp at hi; subst hi; rfl) hfo h
theorem al_rename {N : Nat} {ops : Array Oper} {rest : List Oper} {K : St → Prop} {st : St} (k m m' : Nat) {sz L : Nat} {cs : List C} (hs : st.get k = some (true, .v (.ms (.l m) sz 0 L))) (hb : st.box (.l m) = some cs)
    (hfr : st.freshO (.l m', true) = true) (hfo : st.freshO (.l m, false) = true) (h : AL Z N ops rest K (st.ren k m m' sz L cs)) : AL Z N ops rest K st :=
  fun E G a w hr hE => h E _ a w (hr.rename hs hb (St.freshO_ok hfr) (St.freshO_ok hfo)) hE
theorem al_closArr {N : Nat} {ops : Array Oper} {rest : List Oper} {K : St → Prop} {st : St} {o : Oper} {d : Nat} {fo x y : Operand} {ts : Array TypeId} {f : FuncId} {a b r : Nat} (q : Nat) {m n c : Int} {len : Nat} {g : Nat → Int} {u : Value} (S : SetFn Z f)
    (ho : o.op = .call { callee := .value fo, args := #[x, y], argTypes := ts }) (hg : gateOf ops st o = some true) (hd : o.dst = some d) (hN : Nat.ble (d + 1) N = true)
    (hf : lk Z.T st 0 fo = some (true, .fn f [.ptr (.l a) 0, .ptr (.l b) 0])) (hxy : lkAll Z.T st ts.toList [x, y] = some (true, [.v (.c (.i .i64 m)), .v (.c (.i .u64 c))]))
    (hba : st.box (.l a) = some [.i .i64 n]) (hbb : st.box (.l b) = some [.o u]) (hq : st.get q = some (true, .v (.msv (.l r) 1 0 len u))) (hbr : st.box (.l r) = some (arr .u64 g len)) (hn : (len : Int) = n + 1) (hm : 0 ≤ m) (hmx : (len : Int) < 9223372036854775807)
    (h : AL Z N ops rest K ((st.store (.l r) (arr .u64 (fun j => if (j : Int) = m then c else g j) len) m.toNat 1).put d (true, .tup []))) : AL Z N ops (o :: rest) K st :=
  al_clos q S ho hg hd hN hf hxy hba hbb hq hbr (arr_len _ _ _) hn hm hmx (by rw [setIf_arr hm hn]; exact h)
theorem dr_closArr {N : Nat} {ops : Array Oper} {rest : List Oper} {st : St} {o : Oper} {s0 : St} {B : List Nat} {k : Nat} {acc : List Lnk} {Q : St → Prop} {d : Nat} {fo x y : Operand} {ts : Array TypeId} {f : FuncId} (a b r q : Nat) {m n c : Int} {len : Nat} {g : Nat → Int} {u : Value} {R : Foot} (S : SetFn Z f)
    (hR : R = { foot ops o [.l a, .l b, .l r] [] with rt := q :: slotsOf ops o }) (hk : ops[k]? = some o)
    (ho : o.op = .call { callee := .value fo, args := #[x, y], argTypes := ts }) (hg : gateOf ops (rs R st) o = some true) (hd : o.dst = some d) (hN : Nat.ble (d + 1) N = true)
    (hf : lk Z.T (rs R st) 0 fo = some (true, .fn f [.ptr (.l a) 0, .ptr (.l b) 0])) (hxy : lkAll Z.T (rs R st) ts.toList [x, y] = some (true, [.v (.c (.i .i64 m)), .v (.c (.i .u64 c))]))
    (hba : (rs R st).box (.l a) = some [.i .i64 n]) (hbb : (rs R st).box (.l b) = some [.o u]) (hq : (rs R st).get q = some (true, .v (.msv (.l r) 1 0 len u))) (hbr : (rs R st).box (.l r) = some (arr .u64 g len)) (hn : (len : Int) = n + 1) (hm : 0 ≤ m) (hmx : (len : Int) < 9223372036854775807)
    (hr : Draw Z N s0 ops B (k + 1) rest (acc ++ [(k, { d := some (d, true, .tup []), b := some (.l r, arr .u64 (fun j => if (j : Int) = m then c else g j) len), drop := .t d :: cellPls (.l r) m.toNat 1 }, R)]) (ap { d := some (d, true, .tup []), b := some (.l r, arr .u64 (fun j => if (j : Int) = m then c else g j) len), drop := .t d :: cellPls (.l r) m.toNat 1 } st) Q) :
    Draw Z N s0 ops B k (o :: rest) acc st Q :=
  dr_clos a b r q S hR hk ho hg hd hN hf hxy hba hbb hq hbr (arr_len _ _ _) hn hm hmx (by rw [setIf_arr hm hn]; exact hr)
end Go.Abs
/- Numbers of strings: what both sides compute (plain). -/
set_option linter.unusedVariables false
set_option linter.unusedSimpArgs false
namespace Go.Proofs.Ytgjclggjkhapfaa
open Go Go.Abs
def M1 : Nat := 4611686018427387905
def sat (x : Nat) : Nat := min x M1
theorem sat_le (x : Nat) : sat x ≤ M1 := Nat.min_le_right _ _
theorem sat_add (a b : Nat) : sat (sat a + sat b) = sat (a + b) := by unfold sat; omega
theorem sat_of {a : Nat} (h : a ≤ M1) : sat a = a := by unfold sat; omega
theorem sat_zero {a : Nat} : sat a = 0 ↔ a = 0 := by unfold sat M1; omega
theorem sat_top {x : Nat} (h : M1 ≤ x) : sat x = M1 := by unfold sat; omega
theorem sat_mul (a b : Nat) : sat (sat a * sat b) = sat (a * b) := by
  by_cases ha : a = 0
  · subst ha; simp [sat]
  by_cases hb : b = 0
  · subst hb; simp [sat]
  by_cases h1 : a ≤ M1
  · by_cases h2 : b ≤ M1
    · rw [sat_of h1, sat_of h2]
    · have e : sat b = M1 := by unfold sat; omega
      rw [e, sat_of h1]
      have q1 : M1 ≤ a * M1 := Nat.le_mul_of_pos_left _ (by omega)
      have q2 : M1 ≤ a * b := Nat.le_trans (by omega : M1 ≤ b) (Nat.le_mul_of_pos_left _ (by omega))
      rw [sat_top q1, sat_top q2]
  · have e : sat a = M1 := by unfold sat; omega
    have hs : 1 ≤ sat b := by
      have : sat b ≠ 0 := fun e => hb (sat_zero.1 e)
      omega
    rw [e]
    have q1 : M1 ≤ M1 * sat b := Nat.le_mul_of_pos_right _ (by omega)
    have q2 : M1 ≤ a * b := Nat.le_trans (by omega : M1 ≤ a) (Nat.le_mul_of_pos_right _ (by omega))
    rw [sat_top q1, sat_top q2]
def sumTo (g : Nat → Nat) : Nat → Nat
  | 0 => 0
  | n + 1 => sumTo g n + g n
theorem sumTo_ext {g g' : Nat → Nat} : ∀ {n : Nat}, (∀ m, m < n → g m = g' m) → sumTo g n = sumTo g' n
  | 0, _ => rfl
  | n + 1, h => by rw [sumTo, sumTo, sumTo_ext fun m hm => h m (by omega), h n (by omega)]
theorem sumTo_zero {g : Nat → Nat} : ∀ {n : Nat}, (∀ m, m < n → g m = 0) → sumTo g n = 0
  | 0, _ => rfl
  | n + 1, h => by rw [sumTo, sumTo_zero fun m hm => h m (by omega), h n (by omega)]
theorem sumTo_first (g : Nat → Nat) : ∀ n : Nat, sumTo g (n + 1) = g 0 + sumTo (fun a => g (a + 1)) n
  | 0 => by simp [sumTo]
  | n + 1 => by rw [sumTo, sumTo_first g n, sumTo, Nat.add_assoc]
theorem sumTo_rev : ∀ (g : Nat → Nat) (n : Nat), sumTo g (n + 1) = sumTo (fun a => g (n - a)) (n + 1)
  | g, 0 => rfl
  | g, n + 1 => by
    rw [sumTo_first (fun a => g (n + 1 - a)), sumTo, sumTo_rev g n, Nat.add_comm]
    congr 1
    apply sumTo_ext
    intro m hm
    congr 1; omega
/-- The strings of two parts with m bytes. -/
def conv (x c : Nat → Nat) (m : Nat) : Nat := sumTo (fun a => x a * c (m - a)) (m + 1)
theorem conv_comm (x c : Nat → Nat) (m : Nat) : conv x c m = conv c x m := by
  unfold conv
  rw [sumTo_rev]
  apply sumTo_ext
  intro a ha
  rw [Nat.mul_comm]; congr 2; omega
/-- The sum as far as a loop has come. -/
def pt (x c : Nat → Nat) (a m : Nat) : Nat := sumTo (fun i => if i ≤ m then x i * c (m - i) else 0) a
def part (x c : Nat → Nat) (a b m : Nat) : Nat := pt x c a m + if a ≤ m ∧ m < a + b then x a * c (m - a) else 0
theorem pt_succ (x c : Nat → Nat) (a m : Nat) : pt x c (a + 1) m = pt x c a m + if a ≤ m then x a * c (m - a) else 0 := rfl
theorem pt_conv {x c : Nat → Nat} {a m : Nat} (h : m < a) : pt x c a m = conv x c m := by
  have key : ∀ k, pt x c (m + 1 + k) m = conv x c m := by
    intro k
    induction k with
    | zero =>
      apply sumTo_ext
      intro i hi
      rw [if_pos (by omega)]
    | succ k ih => rw [← Nat.add_assoc, pt_succ, ih, if_neg (by omega), Nat.add_zero]
  have := key (a - (m + 1))
  rwa [show m + 1 + (a - (m + 1)) = a by omega] at this
theorem part_zero (x c : Nat → Nat) (a m : Nat) : part x c a 0 m = pt x c a m := by
  unfold part; rw [if_neg (by omega), Nat.add_zero]
theorem part_full {x c : Nat → Nat} {a b m : Nat} (h : m < a + b) : part x c a b m = pt x c (a + 1) m := by
  unfold part; rw [pt_succ]
  by_cases h1 : a ≤ m
  · rw [if_pos ⟨h1, h⟩, if_pos h1]
  · rw [if_neg (by omega), if_neg h1]
theorem part_step (x c : Nat → Nat) (a b m : Nat) : part x c a (b + 1) m = if m = a + b then pt x c a m + x a * c b else part x c a b m := by
  unfold part
  by_cases h : m = a + b
  · subst h
    rw [if_pos rfl, if_pos (by omega)]
    congr 3; omega
  · rw [if_neg h]
    by_cases h1 : a ≤ m ∧ m < a + b
    · rw [if_pos (by omega), if_pos h1]
    · rw [if_neg (by omega), if_neg h1]
theorem part_at (x c : Nat → Nat) (a b : Nat) : part x c a b (a + b) = pt x c a (a + b) := by
  unfold part; rw [if_neg (by omega), Nat.add_zero]
/-- The strings of a field with n bytes; 'rec': of a nested format. -/
def cntF (rec : Int → Nat → Nat) (f : Fd) (n : Nat) : Nat :=
  if f.kind = 1 then (if n = f.bytes.length then 1 else 0) else if f.kind = 2 then (if (n : Int) = f.n then 256 ^ n else 0)
  else if f.kind = 3 then (if 1 ≤ n ∧ (n : Int) - 1 ≤ f.n then 256 ^ (n - 1) else 0) else if f.kind = 4 then (if n = 1 then (f.high - f.low + 1).toNat else 0)
  else if f.kind = 5 then (if 1 ≤ n then rec f.n (n - 1) else 0) else if f.low ≤ (n : Int) ∧ (n : Int) ≤ f.high then 256 ^ n else 0
def cntL (rec : Int → Nat → Nat) : List Fd → (Nat → Nat) → Nat → Nat
  | [], x => x
  | f :: fs, x => cntL rec fs (conv x (cntF rec f))
def one0 (m : Nat) : Nat := if m = 0 then 1 else 0
def cnt0 (t : List Fm) (i : Int) : Nat → Nat := cntL (fun _ _ => 0) (t.getD i.toNat default).fields one0
def cntT (t : List Fm) (i : Int) : Nat → Nat := cntL (cnt0 t) (t.getD i.toNat default).fields one0
def cntE (t : List Fm) (i n : Int) : Int × Int := if errE t i ≠ 0 then (0, errE t i) else if n < 0 ∨ 2000 < n then (0, 7) else if M1 ≤ cntT t i n.toNat then (0, 3) else ((cntT t i n.toNat : Nat), 0)
/-- There are none beyond the bounds. -/
theorem conv_zero {x c : Nat → Nat} {A B : Int} (hx : ∀ m : Nat, A < m → x m = 0) (hc : ∀ m : Nat, B < m → c m = 0) (m : Nat) (h : A + B < m) : conv x c m = 0 := by
  apply sumTo_zero
  intro a ha
  by_cases h1 : A < a
  · rw [hx a h1, Nat.zero_mul]
  · rw [hc (m - a) (by omega), Nat.mul_zero]
theorem cntF_zero {rec : Int → Nat → Nat} {rb : Int → Int × Int} {f : Fd} (hf : FdOk f) (hr : f.kind = 5 → ∀ m : Nat, (rb f.n).2 < m → rec f.n m = 0) (m : Nat) (h : (bndF rb f).2 < m) : cntF rec f m = 0 := by
  obtain ⟨hk, h1, h2, h3, h4, h5, h6⟩ := hf
  obtain ⟨c1, c2, c3, c4, c5, c6⟩ := bndF_cases rb f
  obtain k | k | k | k | k | k : f.kind = 1 ∨ f.kind = 2 ∨ f.kind = 3 ∨ f.kind = 4 ∨ f.kind = 5 ∨ f.kind = 6 := by omega
  · have := c1 k; unfold cntF; rw [if_pos k, if_neg (by omega)]
  · have := c2 k; unfold cntF; rw [if_neg (by omega), if_pos k, if_neg (by omega)]
  · have := c3 k; unfold cntF; rw [if_neg (by omega), if_neg (by omega), if_pos k, if_neg (by omega)]
  · have := c4 k; unfold cntF; rw [if_neg (by omega), if_neg (by omega), if_neg (by omega), if_pos k, if_neg (by omega)]
  · have := c5 k; unfold cntF; rw [if_neg (by omega), if_neg (by omega), if_neg (by omega), if_neg (by omega), if_pos k]; split; exact hr k _ (by omega); rfl
  · have := c6 k; unfold cntF; rw [if_neg (by omega), if_neg (by omega), if_neg (by omega), if_neg (by omega), if_neg (by omega), if_neg (by omega)]
theorem cntL_zero {rec : Int → Nat → Nat} {rb : Int → Int × Int} : ∀ {fs : List Fd} {x : Nat → Nat} {A : Int}, (∀ k, k < fs.length → ∀ m : Nat, (bndF rb (fs.getD k default)).2 < m → cntF rec (fs.getD k default) m = 0) → (∀ m : Nat, A < m → x m = 0) →
    ∀ m : Nat, A + (bndL rb fs).2 < m → cntL rec fs x m = 0
  | [], x, A, _, hx, m, h => by rw [cntL]; exact hx m (by simpa [bndL] using h)
  | f :: fs, x, A, hf, hx, m, h => by
    rw [cntL]
    have h0 : ∀ m : Nat, (bndF rb f).2 < m → cntF rec f m = 0 := fun m hm => by have := hf 0 (by simp) m (by simpa using hm); simpa using this
    refine cntL_zero (A := A + (bndF rb f).2) (fun k hk m hm => by have := hf (k + 1) (by simpa using hk) m (by simpa using hm); simpa using this) (conv_zero hx h0) m ?_
    rw [bndL] at h
    dsimp only at h; omega
theorem one0_zero (m : Nat) (h : (0 : Int) < m) : one0 m = 0 := by unfold one0; rw [if_neg (by omega)]
theorem cnt0_zero {t : List Fm} {i : Int} (hp : Plain1 (t.getD i.toNat default).fields) (m : Nat) (h : (bnd0 t i).2 < m) : cnt0 t i m = 0 :=
  cntL_zero (rb := fun _ => (0, 0)) (fun k hk m hm => cntF_zero (hp.ok k hk).1 (fun h5 => absurd h5 (hp.ok k hk).2.1) m hm) one0_zero m (by unfold bnd0 fmAt at h; omega)
theorem bnd1_small {f : Fd} (hf : FdOk f) (h6 : f.kind ≠ 6) : 0 ≤ (bnd1 f).1 ∧ (bnd1 f).1 ≤ (bnd1 f).2 ∧ (bnd1 f).2 ≤ 16 := by
  obtain ⟨h1, h2, h3, h4, h5, h7, _⟩ := hf
  unfold bnd1
  grind
theorem bnd0_small {t : List Fm} {i : Int} (hp : Plain1 (t.getD i.toNat default).fields) : (bnd0 t i).2 ≤ 96 := by
  have := bndL_le (rec := fun _ => (0, 0)) (B := 16) (l := (t.getD i.toNat default).fields) fun j hj => by
    obtain ⟨h1, h2, h3⟩ := hp.ok j hj
    unfold bndF
    rw [if_neg h2]
    exact bnd1_small h1 h3
  have hl := hp.len
  unfold bnd0 fmAt
  omega
/-- A field more. -/
theorem cntL_drop (rec : Int → Nat → Nat) {fs : List Fd} {k : Nat} (h : k < fs.length) (x : Nat → Nat) : cntL rec (fs.drop k) x = cntL rec (fs.drop (k + 1)) (conv x (cntF rec (fs.getD k default))) := by
  rw [drop_getD h, cntL]
theorem pow_sat (n : Nat) : sat (sat (256 ^ n) * 256) = sat (256 ^ (n + 1)) := by
  have := sat_mul (256 ^ n) 256
  rw [show sat 256 = 256 from rfl] at this
  rw [this, Nat.pow_succ]
theorem pow_big {n : Nat} (h : 8 ≤ n) : sat (256 ^ n) = sat (256 ^ 8) := by
  have h1 : 256 ^ 8 ≤ 256 ^ n := Nat.pow_le_pow_right (by decide) h
  have h2 : M1 ≤ 256 ^ 8 := by decide
  unfold sat; omega
end Go.Proofs.Ytgjclggjkhapfaa
