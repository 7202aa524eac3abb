/- Contracts: the proof of an extension, as the reference reads it. -/
import Derived.Test.YtginljdgdllhfaaRef3
set_option linter.unusedVariables false
set_option linter.unusedSimpArgs false
namespace Go.Proofs.Ytginljdgdllhfaa
open Go Go.Abs
structure GP where
  x : T
  y : T
  r : List T
  ok : Bool
def GP.cells (p : GP) : List C := p.x.cells ++ (p.y.cells ++ [.sl 4 (T.rows p.r), .b p.ok])
def gz : GP := ⟨noT, noT, [], false⟩
def gStop (w : Bool) (old : T) (l : List T) : GP := if w = true then ⟨old, old, l, true⟩ else if l.isEmpty = true then gz else ⟨nextT l, nextT l, l.tail, true⟩
def gL' (p : GP) : GP := if (!p.ok || p.r.isEmpty) = true then gz else ⟨p.x, nodeT p.y (nextT p.r), p.r.tail, true⟩
def gR' (p : GP) : GP := if (!p.ok || p.r.isEmpty) = true then gz else ⟨nodeT (nextT p.r) p.x, nodeT (nextT p.r) p.y, p.r.tail, true⟩
def growP : Nat → Nat → Nat → Bool → T → List T → GP
  | 0, _, _, w, old, l => gStop w old l
  | f + 1, n, m, w, old, l => if n = m then gStop w old l else if n ≤ half m then gL' (growP f n (half m) w old l) else gR' (growP f (n - half m) (m - half m) false old l)
theorem gz_cells : gz.cells = [.i .i64 0, .s [], .i .i64 0, .sl 4 [], .i .i64 0, .s [], .i .i64 0, .sl 4 [], .sl 4 [], .b false] := by
  simp [GP.cells, gz, noT, T.cells, T.kind, T.name, T.sort, T.kids, T.rows]
theorem tk4 (t : T) : t.cells = [.i .i64 t.kind, .s t.name, .i .i64 t.sort, .sl 4 (T.rows t.kids)] := rfl
set_option maxHeartbeats 1000000 in
theorem grow_stop : ∀ (n : Nat) (w : Bool) (old : T) (l : List T), l.length ≤ 100000 →
    Ctr sys 53 [xt old, xi n, xi n, xb w, xl l] [] (.v (.agg (gStop w old l).cells)) none [] := by
  intro n w old l hl
  refine spec_intro Try.func53 rfl rfl rfl rfl rfl rfl ?_
  refine awp_seq ?_
  refine awp_region ?_
  refine al_do rfl (does_box rfl rfl rfl rfl) ?_
  refine al_do rfl (does_alloc rfl rfl rfl) ?_
  refine al_nil ?_
  refine awp_seq ?_
  refine awp_seq ?_
  refine awp_region ?_
  refine al_pure rfl rfl rfl (pure_move rfl (fun _ => rfl)) ?_
  refine al_pure rfl rfl rfl (pure_move rfl (fun _ => rfl)) ?_
  refine al_pure rfl rfl rfl (pure_cmp rfl rfl (fun _ => rfl) (fun _ => rfl) rfl) ?_
  refine al_pure rfl rfl rfl (pure_move rfl (fun _ => rfl)) ?_
  refine al_pure rfl rfl rfl (pure_move rfl (fun _ => rfl)) ?_
  refine al_pure rfl rfl rfl (pure_and rfl rfl (fun _ => rfl) (fun _ hi => gP rfl hi)) ?_
  refine al_nil ?_
  refine awp_sub (s := { t := [(1, _, _), (2, _, _), (3, _, _), (4, _, _), (5, _, _), (10, _, _), (19, _, _)], bx := [((.l 5), _), ((.l 10), _)], ow := [] }) (sub_mk (⟨⟨_, rfl, rfl⟩, ⟨⟨_, rfl, rfl⟩, ⟨⟨_, rfl, rfl⟩, ⟨⟨_, rfl, rfl⟩, ⟨⟨_, rfl, rfl⟩, ⟨⟨_, rfl, rfl⟩, ⟨⟨_, rfl, rfl⟩, trivial⟩⟩⟩⟩⟩⟩⟩) (⟨⟨_, rfl, rfl⟩, ⟨⟨_, rfl, rfl⟩, trivial⟩⟩) trivial) ?_
  refine awp_cond rfl (fun hc => ?_) (fun hc => ?_)
  · simp only [Bool.and_eq_true] at hc
    refine awp_seq ?_
    refine awp_region ?_
    refine al_pure rfl rfl rfl (pure_loadBoxRow rfl (fun _ => rfl) rfl rfl rfl rfl rfl) ?_
    refine al_pure rfl rfl rfl (pure_loadBoxRow rfl (fun _ => rfl) rfl rfl rfl rfl rfl) ?_
    refine al_pure rfl rfl rfl (pure_move rfl (fun _ => rfl)) ?_
    refine al_pure rfl rfl rfl (pure_build rfl Try.underlying72 rfl (fun _ => rfl)) ?_
    refine al_do rfl (does_store rfl rfl rfl rfl rfl rfl rfl) ?_
    refine al_nil ?_
    refine awp_ret ?_
    repeat (first | refine thenS_ret ?_ | refine blockS_ret ?_)
    refine ret_ok rfl ?_ trivial
    rw [gStop, if_pos hc.2]; rfl
  · have hw : w = false := by simpa using hc
    refine awp_skip ?_
    refine awp_seq ?_
    refine awp_seq ?_
    refine awp_region ?_
    refine al_pure rfl rfl rfl (pure_move rfl (fun _ => rfl)) ?_
    refine al_pure rfl rfl rfl (pure_move rfl (fun _ => rfl)) ?_
    refine al_pure rfl rfl rfl (pure_cmp rfl rfl (fun _ => rfl) (fun _ => rfl) rfl) ?_
    refine al_nil ?_
    refine awp_cond rfl (fun hc2 => ?_) (fun hc2 => ?_)
    · refine awp_seq ?_
      refine awp_seq ?_
      refine awp_region ?_
      refine al_pure rfl rfl rfl (pure_move rfl (fun _ => rfl)) ?_
      refine al_lenSl rfl rfl rfl rfl rfl (fun _ => rfl) rfl rfl ?_ (fun hh => by simp at hh); intro hlen
      refine al_pure rfl rfl rfl (pure_cmp rfl rfl (fun _ => rfl) (fun _ => rfl) rfl) ?_
      refine al_nil ?_
      refine awp_cond rfl (fun hc3 => ?_) (fun hc3 => ?_)
      · simp only [T.rows_len, lenZero] at hc3
        refine awp_seq ?_
        refine awp_region ?_
        refine al_pure rfl rfl rfl (pure_build rfl Try.underlying72 rfl (fun _ => rfl)) ?_
        refine al_do rfl (does_store rfl rfl rfl rfl rfl rfl rfl) ?_
        refine al_nil ?_
        refine awp_ret ?_
        repeat (first | refine thenS_ret ?_ | refine blockS_ret ?_)
        refine ret_ok rfl ?_ trivial
        rw [gStop, if_neg (by rw [hw]; simp), if_pos hc3, gz_cells]; rfl
      · simp only [T.rows_len, lenZero] at hc3
        have hlp := rows_pos hc3
        refine awp_skip ?_
        refine awp_seq ?_
        refine awp_drawn' (by kernel_rfl) ?_
        refine dr_pure rfl rfl rfl rfl (pure_move rfl (fun _ => rfl)) ?_
        refine dr_pure rfl rfl rfl rfl (pure_indexAddr rfl rfl (fun _ => rfl) (fun _ => rfl) rfl rfl rfl (fun _ => rows_head hc3)) ?_
        refine dr_pure rfl rfl rfl rfl (pure_loadRoRow rfl (fun _ => rfl) rfl rfl rfl rfl) ?_
        refine dr_pure rfl rfl rfl rfl (pure_move rfl (fun _ => rfl)) ?_
        refine dr_pure rfl rfl rfl rfl (pure_indexAddr rfl rfl (fun _ => rfl) (fun _ => rfl) rfl rfl rfl (fun _ => rows_head hc3)) ?_
        refine dr_pure rfl rfl rfl rfl (pure_loadRoRow rfl (fun _ => rfl) rfl rfl rfl rfl) ?_
        refine dr_pure rfl rfl rfl rfl (pure_move rfl (fun _ => rfl)) ?_
        refine dr_pure rfl rfl rfl rfl (pure_slice rfl (fun _ => rfl) rfl rfl (fun _ => ⟨_, _, _, rfl, (fun _ => rfl), rfl⟩) (fun _ => rfl) (fun _ => by omega) (fun _ => by omega)) ?_
        refine dr_pure rfl rfl rfl rfl (pure_build rfl Try.underlying72 rfl (fun _ => rfl)) ?_
        refine dr_store rfl rfl rfl rfl rfl rfl rfl rfl rfl rfl rfl rfl ?_
        refine dr_nil (by kernel_rfl) ?_
        refine awp_ret ?_
        repeat (first | refine thenS_ret ?_ | refine blockS_ret ?_)
        refine ret_ok rfl ?_ trivial
        rw [gStop, if_neg (by rw [hw]; simp), if_neg (by rw [hc3]; simp), rows_tail]; rfl
    · simp at hc2
def z10 : List C := [.i .i64 0, .s [], .i .i64 0, .sl 4 [], .i .i64 0, .s [], .i .i64 0, .sl 4 [], .sl 4 [], .b false]
def growJ (p : GP) : St := { t := [(10, true, .v (.ptr (.l 10) 0)), (12, true, .v (.ptr (.l 12) 0))], bx := [(.l 10, z10), (.l 12, p.cells)], ow := [] }
set_option maxHeartbeats 1000000 in
theorem grow_spec : ∀ (f n m : Nat) (w : Bool) (old : T) (l : List T), 1 ≤ n → n ≤ m → m ≤ f + 1 → m ≤ 100000 → l.length ≤ 100000 →
    Ctr sys 53 [xt old, xi n, xi m, xb w, xl l] [] (.v (.agg (growP f n m w old l).cells)) none [] := by
  intro f
  induction f with
  | zero =>
    intro n m w old l hn hnm hf hm hl
    obtain rfl : n = 1 := by omega
    obtain rfl : m = 1 := by omega
    exact grow_stop 1 w old l hl
  | succ f ih =>
    intro n m w old l hn hnm hf hm hl
    by_cases he : n = m
    · subst he
      rw [growP, if_pos rfl]
      exact grow_stop n w old l hl
    have hb := half_bound (n := m) (by omega)
    refine spec_intro Try.func53 rfl rfl rfl rfl rfl rfl ?_
    refine awp_seq ?_
    refine awp_region ?_
    refine al_do rfl (does_box rfl rfl rfl rfl) ?_
    refine al_do rfl (does_alloc rfl rfl rfl) ?_
    refine al_nil ?_
    refine awp_seq ?_
    refine awp_seq ?_
    refine awp_region ?_
    refine al_pure rfl rfl rfl (pure_move rfl (fun _ => rfl)) ?_
    refine al_pure rfl rfl rfl (pure_move rfl (fun _ => rfl)) ?_
    refine al_pure rfl rfl rfl (pure_cmp rfl rfl (fun _ => rfl) (fun _ => rfl) rfl) ?_
    refine al_pure rfl rfl rfl (pure_move rfl (fun _ => rfl)) ?_
    refine al_pure rfl rfl rfl (pure_move rfl (fun _ => rfl)) ?_
    refine al_pure rfl rfl rfl (pure_and rfl rfl (fun _ => rfl) (fun _ hi => gP rfl hi)) ?_
    refine al_nil ?_
    refine awp_sub (s := { t := [(1, _, _), (2, _, _), (3, _, _), (4, _, _), (5, _, _), (10, _, _), (19, _, _)], bx := [((.l 5), _), ((.l 10), _)], ow := [] }) (sub_mk (⟨⟨_, rfl, rfl⟩, ⟨⟨_, rfl, rfl⟩, ⟨⟨_, rfl, rfl⟩, ⟨⟨_, rfl, rfl⟩, ⟨⟨_, rfl, rfl⟩, ⟨⟨_, rfl, rfl⟩, ⟨⟨_, rfl, rfl⟩, trivial⟩⟩⟩⟩⟩⟩⟩) (⟨⟨_, rfl, rfl⟩, ⟨⟨_, rfl, rfl⟩, trivial⟩⟩) trivial) ?_
    refine awp_cond rfl (fun hc => ?_) (fun hc => ?_)
    · simp only [Bool.and_eq_true, beq_iff_eq] at hc
      omega
    · refine awp_skip ?_
      refine awp_seq ?_
      refine awp_seq ?_
      refine awp_region ?_
      refine al_pure rfl rfl rfl (pure_move rfl (fun _ => rfl)) ?_
      refine al_pure rfl rfl rfl (pure_move rfl (fun _ => rfl)) ?_
      refine al_pure rfl rfl rfl (pure_cmp rfl rfl (fun _ => rfl) (fun _ => rfl) rfl) ?_
      refine al_nil ?_
      refine awp_cond rfl (fun hc2 => ?_) (fun hc2 => ?_)
      · simp only [beq_iff_eq] at hc2
        omega
      · refine awp_skip ?_
        refine awp_seq ?_
        refine awp_region ?_
        refine al_pure rfl rfl rfl (pure_move rfl (fun _ => rfl)) ?_
        refine al_call rfl rfl rfl rfl rfl rfl (fun _ => rfl) (fun _ => rfl) (Split_spec m (by omega) (by omega)) rfl ?_
        refine al_pure rfl rfl rfl (pure_assign rfl (fun _ => rfl)) ?_
        refine al_nil ?_
        refine awp_seq ?_
        refine awp_region ?_
        refine al_do rfl (does_alloc rfl rfl rfl) ?_
        refine al_nil ?_
        refine awp_seq ?_
        refine awp_seq ?_
        refine awp_region ?_
        refine al_pure rfl rfl rfl (pure_move rfl (fun _ => rfl)) ?_
        refine al_pure rfl rfl rfl (pure_move rfl (fun _ => rfl)) ?_
        refine al_pure rfl rfl rfl (pure_cmp rfl rfl (fun _ => rfl) (fun _ => rfl) rfl) ?_
        refine al_nil ?_
        refine awp_sub (s := { t := [(1, _, _), (2, _, _), (3, _, _), (4, _, _), (5, _, _), (10, _, _), (11, _, _), (12, _, _), (44, _, _)], bx := [((.l 5), _), ((.l 10), _), ((.l 12), _)], ow := [] }) (sub_mk (⟨⟨_, rfl, rfl⟩, ⟨⟨_, rfl, rfl⟩, ⟨⟨_, rfl, rfl⟩, ⟨⟨_, rfl, rfl⟩, ⟨⟨_, rfl, rfl⟩, ⟨⟨_, rfl, rfl⟩, ⟨⟨_, rfl, rfl⟩, ⟨⟨_, rfl, rfl⟩, ⟨⟨_, rfl, rfl⟩, trivial⟩⟩⟩⟩⟩⟩⟩⟩⟩) (⟨⟨_, rfl, rfl⟩, ⟨⟨_, rfl, rfl⟩, ⟨⟨_, rfl, rfl⟩, trivial⟩⟩⟩) trivial) ?_
        refine awp_cond rfl (fun hc3 => ?_) (fun hc3 => ?_)
        · have hc3' := hc3
          simp only [decide_eq_true_eq] at hc3
          rw [growP, if_neg he, if_pos (by omega)]
          have hs := ih n (half m) w old l (by omega) (by omega) (by omega) (by omega) (by omega)
          generalize growP f n (half m) w old l = p at hs
          refine awp_region ?_
          refine al_pure rfl rfl rfl (pure_loadBoxRow rfl (fun _ => rfl) rfl rfl rfl rfl rfl) ?_
          refine al_pure rfl rfl rfl (pure_move rfl (fun _ => rfl)) ?_
          refine al_pure rfl rfl rfl (pure_move rfl (fun _ => rfl)) ?_
          refine al_pure rfl rfl rfl (pure_move rfl (fun _ => rfl)) ?_
          refine al_pure rfl rfl rfl (pure_move rfl (fun _ => rfl)) ?_
          refine al_call rfl rfl rfl rfl rfl rfl (fun _ => rfl) (fun _ => rfl) (hs) rfl ?_
          refine al_do rfl (does_store rfl rfl rfl rfl rfl rfl rfl) ?_
          refine al_nil ?_
          refine awp_seq ?_
          refine awp_seq ?_
          refine awp_region ?_
          refine al_pure rfl rfl rfl (pure_fieldPtr rfl (fun _ => rfl) rfl rfl) ?_
          refine al_pure rfl rfl rfl (pure_loadBox rfl (fun _ => rfl) rfl rfl rfl rfl) ?_
          refine al_pure rfl rfl rfl (pure_not rfl (fun _ => rfl)) ?_
          refine al_pure rfl rfl rfl (pure_move rfl (fun _ => rfl)) ?_
          refine al_pure rfl rfl rfl (pure_fieldPtr rfl (fun _ => rfl) rfl rfl) ?_
          refine al_pure rfl rfl rfl (pure_loadBox rfl (fun hh => hh) rfl rfl rfl rfl) ?_
          refine al_pure rfl rfl rfl (pure_lenSl rfl (fun hh => hh) rfl rfl) ?_
          refine al_pure rfl rfl rfl (pure_cmp rfl rfl (fun hh => hh) (fun _ => rfl) rfl) ?_
          refine al_pure rfl rfl rfl (pure_or rfl rfl (fun _ => rfl) (fun _ hi => gP rfl hi)) ?_
          refine al_nil ?_
          refine awp_sub (s := { t := [(1, _, _), (10, _, _), (11, _, _), (12, _, _), (68, _, _)], bx := [((.l 10), _), ((.l 12), _)], ow := [] }) (sub_mk (⟨⟨_, rfl, rfl⟩, ⟨⟨_, rfl, rfl⟩, ⟨⟨_, rfl, rfl⟩, ⟨⟨_, rfl, rfl⟩, ⟨⟨_, rfl, rfl⟩, trivial⟩⟩⟩⟩⟩) (⟨⟨_, rfl, rfl⟩, ⟨⟨_, rfl, rfl⟩, trivial⟩⟩) trivial) ?_
          refine awp_cond rfl (fun hc4 => ?_) (fun hc4 => ?_)
          · simp only [T.rows_len, lenZero] at hc4
            refine awp_seq ?_
            refine awp_region ?_
            refine al_pure rfl rfl rfl (pure_build rfl Try.underlying72 rfl (fun _ => rfl)) ?_
            refine al_do rfl (does_store rfl rfl rfl rfl rfl rfl rfl) ?_
            refine al_nil ?_
            refine awp_ret ?_
            repeat (first | refine thenS_ret ?_ | refine blockS_ret ?_)
            refine ret_ok rfl ?_ trivial
            rw [gL', if_pos hc4, gz_cells]; rfl
          · simp only [T.rows_len, lenZero] at hc4
            have hem : p.r.isEmpty = false := by rw [Bool.or_eq_false_iff] at hc4; exact hc4.2
            have hlp := rows_pos hem
            refine awp_skip ?_
            refine awp_seq ?_
            refine awp_region ?_
            refine al_pure rfl rfl rfl (pure_fieldPtr rfl (fun _ => rfl) rfl rfl) ?_
            refine al_pure rfl rfl rfl (pure_loadBox rfl (fun _ => rfl) rfl rfl rfl rfl) ?_
            refine al_pure rfl rfl rfl (pure_indexAddr rfl rfl (fun _ => rfl) (fun _ => rfl) rfl rfl rfl (fun _ => rows_head hem)) ?_
            refine al_pure rfl rfl rfl (pure_loadRoRow rfl (fun _ => rfl) rfl rfl rfl rfl) ?_
            refine al_do rfl (does_alloc rfl rfl rfl) ?_
            refine al_do rfl (does_store rfl rfl rfl rfl rfl rfl rfl) ?_
            refine al_nil ?_
            refine awp_seq ?_
            refine awp_region ?_
            refine al_pure rfl rfl rfl (pure_fieldPtr rfl (fun _ => rfl) rfl rfl) ?_
            refine al_pure rfl rfl rfl (pure_loadBox rfl (fun _ => rfl) rfl rfl rfl rfl) ?_
            refine al_pure rfl rfl rfl (pure_slice rfl (fun _ => rfl) rfl rfl (fun _ => ⟨_, _, _, rfl, (fun _ => rfl), rfl⟩) (fun _ => rfl) (fun _ => by omega) (fun _ => by omega)) ?_
            refine al_pure rfl rfl rfl (pure_fieldPtr rfl (fun _ => rfl) rfl rfl) ?_
            refine al_do rfl (does_store rfl rfl rfl rfl rfl rfl rfl) ?_
            refine al_nil ?_
            refine awp_sub (s := { t := [(1, _, _), (10, _, _), (11, _, _), (12, _, _), (13, _, _)], bx := [((.l 10), _), ((.l 12), _), ((.l 13), _)], ow := [] }) (sub_mk (⟨⟨_, rfl, rfl⟩, ⟨⟨_, rfl, rfl⟩, ⟨⟨_, rfl, rfl⟩, ⟨⟨_, rfl, rfl⟩, ⟨⟨_, rfl, rfl⟩, trivial⟩⟩⟩⟩⟩) (⟨⟨_, rfl, rfl⟩, ⟨⟨_, rfl, rfl⟩, ⟨⟨_, rfl, rfl⟩, trivial⟩⟩⟩) trivial) ?_
            have hok : p.ok = true := by rw [Bool.or_eq_false_iff] at hc4; simpa using hc4.1
            refine awp_cut (growJ (gL' p)) (True) ?_ (fun hj => ?_)
            · refine awp_seq ?_
              refine awp_region ?_
              refine al_pure rfl rfl rfl (pure_move rfl (fun _ => rfl)) ?_
              refine al_pure rfl rfl rfl (pure_move rfl (fun _ => rfl)) ?_
              refine al_pure rfl rfl rfl (pure_cmp rfl rfl (fun _ => rfl) (fun _ => rfl) rfl) ?_
              refine al_nil ?_
              refine awp_cond rfl (fun hc5 => ?_) (fun hc5 => ?_)
              · have hn := Node_spec p.y (nextT p.r)
                generalize hq : nodeT p.y (nextT p.r) = q at hn
                refine awp_region ?_
                refine al_pure rfl rfl rfl (pure_fieldPtr rfl (fun _ => rfl) rfl rfl) ?_
                refine al_pure rfl rfl rfl (pure_loadBoxRow rfl (fun _ => rfl) rfl rfl rfl rfl rfl) ?_
                refine al_pure rfl rfl rfl (pure_loadBoxRow rfl (fun _ => rfl) rfl rfl rfl rfl rfl) ?_
                refine al_call rfl rfl rfl rfl rfl rfl (fun _ => rfl) (fun _ => rfl) (hn) rfl ?_
                refine al_pure rfl rfl rfl (pure_fieldPtr rfl (fun _ => rfl) rfl rfl) ?_
                refine al_do rfl (does_store rfl rfl rfl rfl rfl rfl rfl) ?_
                refine al_nil ?_
                refine ⟨trivial, sub_mk ⟨⟨_, rfl, rfl⟩, ⟨_, rfl, rfl⟩, trivial⟩ ⟨⟨_, rfl, rfl⟩, ⟨_, rfl, ?_⟩, trivial⟩ trivial⟩
                rw [gL', if_neg (by rw [hc4]; simp), rows_tail, hq, show GP.mk p.x q p.r.tail true = GP.mk p.x q p.r.tail p.ok by rw [hok]]; rfl
              · rw [hc3'] at hc5; simp at hc5
            · generalize gL' p = p'
              refine awp_seq ?_
              refine awp_region ?_
              refine al_pure rfl rfl rfl (pure_loadBoxRow rfl (fun _ => rfl) rfl rfl rfl rfl rfl) ?_
              refine al_do rfl (does_store rfl rfl rfl rfl rfl rfl rfl) ?_
              refine al_nil ?_
              refine awp_ret ?_
              repeat (first | refine thenS_ret ?_ | refine blockS_ret ?_)
              refine ret_ok rfl ?_ trivial
              rfl
        · have hc3' := hc3
          simp only [decide_eq_false_iff_not] at hc3
          rw [growP, if_neg he, if_neg (by omega)]
          have hc1 : (n : Int) - (half m : Nat) = ((n - half m : Nat) : Int) := by omega
          have hcx : (m : Int) - (half m : Nat) = ((m - half m : Nat) : Int) := by omega
          have hs := ih (n - half m) (m - half m) false old l (by omega) (by omega) (by omega) (by omega) (by omega)
          generalize growP f (n - half m) (m - half m) false old l = p at hs
          refine awp_region ?_
          refine al_pure rfl rfl rfl (pure_loadBoxRow rfl (fun _ => rfl) rfl rfl rfl rfl rfl) ?_
          refine al_pure rfl rfl rfl (pure_move rfl (fun _ => rfl)) ?_
          refine al_pure rfl rfl rfl (pure_move rfl (fun _ => rfl)) ?_
          refine al_pure rfl rfl rfl (pure_arith rfl rfl (fun _ => rfl) (fun _ => rfl) rfl (IntWalk.i64_in _ (by omega))) ?_
          refine al_pure rfl rfl rfl (pure_move rfl (fun _ => rfl)) ?_
          refine al_pure rfl rfl rfl (pure_move rfl (fun _ => rfl)) ?_
          refine al_pure rfl rfl rfl (pure_arith rfl rfl (fun _ => rfl) (fun _ => rfl) rfl (IntWalk.i64_in _ (by omega))) ?_
          refine al_pure rfl rfl rfl (pure_move rfl (fun _ => rfl)) ?_
          rw [hc1, hcx]
          refine al_call rfl rfl rfl rfl rfl rfl (fun _ => rfl) (fun _ => rfl) (hs) rfl ?_
          refine al_do rfl (does_store rfl rfl rfl rfl rfl rfl rfl) ?_
          refine al_nil ?_
          refine awp_sub (s := { t := [(1, _, _), (10, _, _), (11, _, _), (12, _, _)], bx := [((.l 10), _), ((.l 12), _)], ow := [] }) (sub_mk (⟨⟨_, rfl, rfl⟩, ⟨⟨_, rfl, rfl⟩, ⟨⟨_, rfl, rfl⟩, ⟨⟨_, rfl, rfl⟩, trivial⟩⟩⟩⟩) (⟨⟨_, rfl, rfl⟩, ⟨⟨_, rfl, rfl⟩, trivial⟩⟩) trivial) ?_
          refine awp_seq ?_
          refine awp_seq ?_
          refine awp_region ?_
          refine al_pure rfl rfl rfl (pure_fieldPtr rfl (fun _ => rfl) rfl rfl) ?_
          refine al_pure rfl rfl rfl (pure_loadBox rfl (fun _ => rfl) rfl rfl rfl rfl) ?_
          refine al_pure rfl rfl rfl (pure_not rfl (fun _ => rfl)) ?_
          refine al_pure rfl rfl rfl (pure_move rfl (fun _ => rfl)) ?_
          refine al_pure rfl rfl rfl (pure_fieldPtr rfl (fun _ => rfl) rfl rfl) ?_
          refine al_pure rfl rfl rfl (pure_loadBox rfl (fun hh => hh) rfl rfl rfl rfl) ?_
          refine al_pure rfl rfl rfl (pure_lenSl rfl (fun hh => hh) rfl rfl) ?_
          refine al_pure rfl rfl rfl (pure_cmp rfl rfl (fun hh => hh) (fun _ => rfl) rfl) ?_
          refine al_pure rfl rfl rfl (pure_or rfl rfl (fun _ => rfl) (fun _ hi => gP rfl hi)) ?_
          refine al_nil ?_
          refine awp_sub (s := { t := [(1, _, _), (10, _, _), (11, _, _), (12, _, _), (68, _, _)], bx := [((.l 10), _), ((.l 12), _)], ow := [] }) (sub_mk (⟨⟨_, rfl, rfl⟩, ⟨⟨_, rfl, rfl⟩, ⟨⟨_, rfl, rfl⟩, ⟨⟨_, rfl, rfl⟩, ⟨⟨_, rfl, rfl⟩, trivial⟩⟩⟩⟩⟩) (⟨⟨_, rfl, rfl⟩, ⟨⟨_, rfl, rfl⟩, trivial⟩⟩) trivial) ?_
          refine awp_cond rfl (fun hc4 => ?_) (fun hc4 => ?_)
          · simp only [T.rows_len, lenZero] at hc4
            refine awp_seq ?_
            refine awp_region ?_
            refine al_pure rfl rfl rfl (pure_build rfl Try.underlying72 rfl (fun _ => rfl)) ?_
            refine al_do rfl (does_store rfl rfl rfl rfl rfl rfl rfl) ?_
            refine al_nil ?_
            refine awp_ret ?_
            repeat (first | refine thenS_ret ?_ | refine blockS_ret ?_)
            refine ret_ok rfl ?_ trivial
            rw [gR', if_pos hc4, gz_cells]; rfl
          · simp only [T.rows_len, lenZero] at hc4
            have hem : p.r.isEmpty = false := by rw [Bool.or_eq_false_iff] at hc4; exact hc4.2
            have hlp := rows_pos hem
            refine awp_skip ?_
            refine awp_seq ?_
            refine awp_region ?_
            refine al_pure rfl rfl rfl (pure_fieldPtr rfl (fun _ => rfl) rfl rfl) ?_
            refine al_pure rfl rfl rfl (pure_loadBox rfl (fun _ => rfl) rfl rfl rfl rfl) ?_
            refine al_pure rfl rfl rfl (pure_indexAddr rfl rfl (fun _ => rfl) (fun _ => rfl) rfl rfl rfl (fun _ => rows_head hem)) ?_
            refine al_pure rfl rfl rfl (pure_loadRoRow rfl (fun _ => rfl) rfl rfl rfl rfl) ?_
            refine al_do rfl (does_alloc rfl rfl rfl) ?_
            refine al_do rfl (does_store rfl rfl rfl rfl rfl rfl rfl) ?_
            refine al_nil ?_
            refine awp_seq ?_
            refine awp_region ?_
            refine al_pure rfl rfl rfl (pure_fieldPtr rfl (fun _ => rfl) rfl rfl) ?_
            refine al_pure rfl rfl rfl (pure_loadBox rfl (fun _ => rfl) rfl rfl rfl rfl) ?_
            refine al_pure rfl rfl rfl (pure_slice rfl (fun _ => rfl) rfl rfl (fun _ => ⟨_, _, _, rfl, (fun _ => rfl), rfl⟩) (fun _ => rfl) (fun _ => by omega) (fun _ => by omega)) ?_
            refine al_pure rfl rfl rfl (pure_fieldPtr rfl (fun _ => rfl) rfl rfl) ?_
            refine al_do rfl (does_store rfl rfl rfl rfl rfl rfl rfl) ?_
            refine al_nil ?_
            refine awp_sub (s := { t := [(1, _, _), (10, _, _), (11, _, _), (12, _, _), (13, _, _)], bx := [((.l 10), _), ((.l 12), _), ((.l 13), _)], ow := [] }) (sub_mk (⟨⟨_, rfl, rfl⟩, ⟨⟨_, rfl, rfl⟩, ⟨⟨_, rfl, rfl⟩, ⟨⟨_, rfl, rfl⟩, ⟨⟨_, rfl, rfl⟩, trivial⟩⟩⟩⟩⟩) (⟨⟨_, rfl, rfl⟩, ⟨⟨_, rfl, rfl⟩, ⟨⟨_, rfl, rfl⟩, trivial⟩⟩⟩) trivial) ?_
            have hok : p.ok = true := by rw [Bool.or_eq_false_iff] at hc4; simpa using hc4.1
            refine awp_cut (growJ (gR' p)) (True) ?_ (fun hj => ?_)
            · refine awp_seq ?_
              refine awp_region ?_
              refine al_pure rfl rfl rfl (pure_move rfl (fun _ => rfl)) ?_
              refine al_pure rfl rfl rfl (pure_move rfl (fun _ => rfl)) ?_
              refine al_pure rfl rfl rfl (pure_cmp rfl rfl (fun _ => rfl) (fun _ => rfl) rfl) ?_
              refine al_nil ?_
              refine awp_cond rfl (fun hc5 => ?_) (fun hc5 => ?_)
              · rw [hc3'] at hc5; simp at hc5
              · have hn := Node_spec (nextT p.r) p.x
                generalize hq : nodeT (nextT p.r) p.x = q at hn
                have hn2 := Node_spec (nextT p.r) p.y
                generalize hq2 : nodeT (nextT p.r) p.y = q2 at hn2
                refine awp_seq ?_
                refine awp_region ?_
                refine al_pure rfl rfl rfl (pure_loadBoxRow rfl (fun _ => rfl) rfl rfl rfl rfl rfl) ?_
                refine al_pure rfl rfl rfl (pure_fieldPtr rfl (fun _ => rfl) rfl rfl) ?_
                refine al_pure rfl rfl rfl (pure_loadBoxRow rfl (fun _ => rfl) rfl rfl rfl rfl rfl) ?_
                refine al_call rfl rfl rfl rfl rfl rfl (fun _ => rfl) (fun _ => rfl) (hn) rfl ?_
                refine al_pure rfl rfl rfl (pure_fieldPtr rfl (fun _ => rfl) rfl rfl) ?_
                refine al_do rfl (does_store rfl rfl rfl rfl rfl rfl rfl) ?_
                refine al_nil ?_
                refine awp_sub (s := { t := [(10, _, _), (12, _, _), (13, _, _)], bx := [((.l 10), _), ((.l 12), _), ((.l 13), _)], ow := [] }) (sub_mk (⟨⟨_, rfl, rfl⟩, ⟨⟨_, rfl, rfl⟩, ⟨⟨_, rfl, rfl⟩, trivial⟩⟩⟩) (⟨⟨_, rfl, rfl⟩, ⟨⟨_, rfl, rfl⟩, ⟨⟨_, rfl, rfl⟩, trivial⟩⟩⟩) trivial) ?_
                refine awp_region ?_
                refine al_pure rfl rfl rfl (pure_loadBoxRow rfl (fun _ => rfl) rfl rfl rfl rfl rfl) ?_
                refine al_pure rfl rfl rfl (pure_fieldPtr rfl (fun _ => rfl) rfl rfl) ?_
                refine al_pure rfl rfl rfl (pure_loadBoxRow rfl (fun _ => rfl) rfl rfl rfl rfl rfl) ?_
                refine al_call rfl rfl rfl rfl rfl rfl (fun _ => rfl) (fun _ => rfl) (hn2) rfl ?_
                refine al_pure rfl rfl rfl (pure_fieldPtr rfl (fun _ => rfl) rfl rfl) ?_
                refine al_do rfl (does_store rfl rfl rfl rfl rfl rfl rfl) ?_
                refine al_nil ?_
                refine ⟨trivial, sub_mk ⟨⟨_, rfl, rfl⟩, ⟨_, rfl, rfl⟩, trivial⟩ ⟨⟨_, rfl, rfl⟩, ⟨_, rfl, ?_⟩, trivial⟩ trivial⟩
                rw [gR', if_neg (by rw [hc4]; simp), rows_tail, hq, hq2, show GP.mk q q2 p.r.tail true = GP.mk q q2 p.r.tail p.ok by rw [hok]]; rfl
            · generalize gR' p = p'
              refine awp_seq ?_
              refine awp_region ?_
              refine al_pure rfl rfl rfl (pure_loadBoxRow rfl (fun _ => rfl) rfl rfl rfl rfl rfl) ?_
              refine al_do rfl (does_store rfl rfl rfl rfl rfl rfl rfl) ?_
              refine al_nil ?_
              refine awp_ret ?_
              repeat (first | refine thenS_ret ?_ | refine blockS_ret ?_)
              refine ret_ok rfl ?_ trivial
              rfl
theorem grow_ext : ∀ (f n m : Nat) (w : Bool) (old : T) (l : List T), (growP f n m w old l).ok = !(extP f n m w old l false).b ∧
    ((growP f n m w old l).ok = true → (growP f n m w old l).x = (extP f n m w old l false).x ∧ (growP f n m w old l).y = (extP f n m w old l false).y ∧ (growP f n m w old l).r = (extP f n m w old l false).l) := by
  have hst : ∀ (w : Bool) (old : T) (l : List T), (gStop w old l).ok = !(stop w old l false).b ∧
    ((gStop w old l).ok = true → (gStop w old l).x = (stop w old l false).x ∧ (gStop w old l).y = (stop w old l false).y ∧ (gStop w old l).r = (stop w old l false).l) := by
    intro w old l
    unfold gStop stop
    cases w with
    | true => simp
    | false => cases l <;> simp [gz]
  intro f
  induction f with
  | zero => intro n m w old l; exact hst w old l
  | succ f ih =>
    intro n m w old l
    rw [growP, extP]
    split
    · exact hst w old l
    · split
      · obtain ⟨h1, h2⟩ := ih n (half m) w old l
        generalize growP f n (half m) w old l = p at h1 h2
        generalize extP f n (half m) w old l false = q at h1 h2
        unfold gL' stepL
        cases hp : p.ok with
        | false =>
          rw [hp] at h1
          have : q.b = true := by simpa using h1.symm
          simp [this, gz]
        | true =>
          obtain ⟨e1, e2, e3⟩ := h2 hp
          rw [hp] at h1
          have : q.b = false := by simpa using h1.symm
          rw [this, ← e2, ← e1, ← e3]
          cases he : p.r.isEmpty <;> simp [gz]
      · obtain ⟨h1, h2⟩ := ih (n - half m) (m - half m) false old l
        generalize growP f (n - half m) (m - half m) false old l = p at h1 h2
        generalize extP f (n - half m) (m - half m) false old l false = q at h1 h2
        unfold gR' stepR
        cases hp : p.ok with
        | false =>
          rw [hp] at h1
          have : q.b = true := by simpa using h1.symm
          simp [this, gz]
        | true =>
          obtain ⟨e1, e2, e3⟩ := h2 hp
          rw [hp] at h1
          have : q.b = false := by simpa using h1.symm
          rw [this, ← e2, ← e1, ← e3]
          cases he : p.r.isEmpty <;> simp [gz]
theorem growP_size {M : Nat} (hM : 1 ≤ M) (f n m : Nat) (w : Bool) (old : T) (l : List T) (hl : ∀ x ∈ l, x.size ≤ M) (ho : old.size ≤ M) (hz : (growP f n m w old l).ok = true) :
    (growP f n m w old l).x.size ≤ M + f * (M + 5) ∧ (growP f n m w old l).y.size ≤ M + f * (M + 5) := by
  obtain ⟨_, h2⟩ := grow_ext f n m w old l
  obtain ⟨e1, e2, _⟩ := h2 hz
  rw [e1, e2]
  exact extP_size hM f n m w old l false hl ho
end Go.Proofs.Ytginljdgdllhfaa
