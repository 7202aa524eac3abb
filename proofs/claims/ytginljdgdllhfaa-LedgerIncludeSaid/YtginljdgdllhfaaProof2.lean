/- Contracts: the proof of an extension is read, and checks, as ledger does. -/
import Derived.Test.YtginljdgdllhfaaProof
set_option linter.unusedVariables false
set_option linter.unusedSimpArgs false
namespace Go.Proofs.Ytginljdgdllhfaa
open Go Go.Abs
theorem nextT_size {l : List T} {M : Nat} (hM : 1 ≤ M) (h : ∀ x ∈ l, x.size ≤ M) : (nextT l).size ≤ M := by
  cases l with
  | nil => exact hM
  | cons a r => exact h a (List.mem_cons_self ..)
theorem incP_mem : ∀ (f n i : Nat) (t : T) (l : List T) (b : Bool) (x : T), x ∈ (incP f n i t l b).2.1 → x ∈ l
  | 0, n, i, t, l, b, x, h => h
  | f + 1, n, i, t, l, b, x, h => by
    rw [incP] at h
    split at h
    · exact h
    · split at h
      · exact incP_mem f _ _ t l b x (List.mem_of_mem_tail h)
      · exact incP_mem f _ _ t l b x (List.mem_of_mem_tail h)
theorem incP_size {M : Nat} (hM : 1 ≤ M) : ∀ (f n i : Nat) (t : T) (l : List T) (b : Bool), (∀ x ∈ l, x.size ≤ M) → (incP f n i t l b).1.size ≤ t.size + 4 + f * (M + 5)
  | 0, n, i, t, l, b, h => by rw [incP, leafT_size]; omega
  | f + 1, n, i, t, l, b, h => by
    rw [incP]
    have e : (f + 1) * (M + 5) = f * (M + 5) + (M + 5) := by rw [Nat.succ_mul]
    split
    · rw [leafT_size]; omega
    · split
      · have h1 := incP_size hM f (half n) i t l b h
        have h2 := nextT_size hM fun x hx => h x (incP_mem f (half n) i t l b x hx)
        rw [nodeT_size]; omega
      · have h1 := incP_size hM f (n - half n) (i - half n) t l b h
        have h2 := nextT_size hM fun x hx => h x (incP_mem f (n - half n) (i - half n) t l b x hx)
        rw [nodeT_size]; omega
def chkI (h : T) (n i : Int) (t : T) (l : List T) : Bool :=
  if n < 1 ∨ 32 < n ∨ i < 0 ∨ n ≤ i ∨ 32 < l.length then false else
    !(incP 32 n.toNat i.toNat t l false).2.2 && (incP 32 n.toNat i.toNat t l false).2.1.isEmpty && ((incP 32 n.toNat i.toNat t l false).1.cmp h == 0)
theorem lenZero (l : List T) : ((l.length : Int) == 0) = l.isEmpty := by
  cases l with
  | nil => rfl
  | cons a r => simp; omega
theorem CheckInclude_spec (h : T) (n i : Int) (t : T) (l : List T) (hh : h.size ≤ 500000) (ht : t.size ≤ 100000) (hl : ∀ x ∈ l, x.size ≤ 10000) :
    Ctr sys 22 [xt h, xi n, xi i, xt t, xl l] [] (xb (chkI h n i t l)) none [] := by
  refine spec_intro Try.func22 rfl rfl rfl rfl rfl rfl ?_
  refine awp_seq ?_
  refine awp_region ?_
  refine al_do rfl (does_box rfl rfl rfl rfl) ?_
  refine al_do rfl (does_box rfl rfl rfl rfl) ?_
  refine al_pure rfl rfl rfl (pure_assign rfl (fun _ => rfl)) ?_
  refine al_nil ?_
  refine awp_seq ?_
  refine awp_seq ?_
  refine awp_region ?_
  refine al_pure rfl rfl rfl (pure_move rfl (fun _ => rfl)) ?_
  refine al_pure rfl rfl rfl (pure_cmp rfl rfl (fun _ => rfl) (fun _ => rfl) rfl) ?_
  refine al_pure rfl rfl rfl (pure_move rfl (fun _ => rfl)) ?_
  refine al_pure rfl rfl rfl (pure_move rfl (fun _ => rfl)) ?_
  refine al_pure rfl rfl rfl (pure_cmp rfl rfl (fun hh => hh) (fun _ => rfl) rfl) ?_
  refine al_pure rfl rfl rfl (pure_or rfl rfl (fun _ => rfl) (fun _ hi => gP rfl hi)) ?_
  refine al_pure rfl rfl rfl (pure_move rfl (fun _ => rfl)) ?_
  refine al_pure rfl rfl rfl (pure_move rfl (fun _ => rfl)) ?_
  refine al_pure rfl rfl rfl (pure_cmp rfl rfl (fun hh => hh) (fun _ => rfl) rfl) ?_
  refine al_pure rfl rfl rfl (pure_or rfl rfl (fun _ => rfl) (fun _ hi => gP rfl hi)) ?_
  refine al_pure rfl rfl rfl (pure_move rfl (fun _ => rfl)) ?_
  refine al_pure rfl rfl rfl (pure_move rfl (fun _ => rfl)) ?_
  refine al_pure rfl rfl rfl (pure_move rfl (fun _ => rfl)) ?_
  refine al_pure rfl rfl rfl (pure_cmp rfl rfl (fun hh => hh) (fun hh => hh) rfl) ?_
  refine al_pure rfl rfl rfl (pure_or rfl rfl (fun _ => rfl) (fun _ hi => gP rfl hi)) ?_
  refine al_pure rfl rfl rfl (pure_move rfl (fun _ => rfl)) ?_
  refine al_pure rfl rfl rfl (pure_move rfl (fun _ => rfl)) ?_
  refine al_pure rfl rfl rfl (pure_lenSl rfl (fun hh => hh) rfl rfl) ?_
  refine al_pure rfl rfl rfl (pure_cmp rfl rfl (fun hh => hh) (fun _ => rfl) rfl) ?_
  refine al_pure rfl rfl rfl (pure_or rfl rfl (fun _ => rfl) (fun _ hi => gP rfl hi)) ?_
  refine al_nil ?_
  refine awp_sub (s := { t := [(1, _, _), (2, _, _), (4, _, _), (5, _, _), (8, _, _), (10, _, _), (32, _, _)], bx := [((.l 5), _), ((.l 8), _)], ow := [] }) (sub_mk (⟨⟨_, rfl, rfl⟩, ⟨⟨_, rfl, rfl⟩, ⟨⟨_, rfl, rfl⟩, ⟨⟨_, rfl, rfl⟩, ⟨⟨_, rfl, rfl⟩, ⟨⟨_, rfl, rfl⟩, ⟨⟨_, rfl, rfl⟩, trivial⟩⟩⟩⟩⟩⟩⟩) (⟨⟨_, rfl, rfl⟩, ⟨⟨_, rfl, rfl⟩, trivial⟩⟩) trivial) ?_
  refine awp_cond rfl (fun hc => ?_) (fun hc => ?_)
  · refine awp_seq ?_
    refine awp_region ?_
    refine al_pure rfl rfl rfl (pure_assign rfl (fun _ => rfl)) ?_
    refine al_nil ?_
    refine awp_ret ?_
    repeat (first | refine thenS_ret ?_ | refine blockS_ret ?_)
    refine ret_ok rfl ?_ trivial
    refine xb_eq ?_
    simp only [Bool.or_eq_true, decide_eq_true_eq, T.rows_len] at hc
    rw [chkI, if_pos (by omega)]
  · simp only [Bool.or_eq_false_iff, decide_eq_false_iff_not, T.rows_len] at hc
    obtain ⟨n, rfl⟩ : ∃ m : Nat, n = m := ⟨n.toNat, by omega⟩
    obtain ⟨i, rfl⟩ : ∃ m : Nat, i = m := ⟨i.toNat, by omega⟩
    rw [chkI, if_neg (by omega), Int.toNat_natCast, Int.toNat_natCast]
    have hsz := incP_size (M := 10000) (by omega) 32 n i t l false hl
    refine awp_skip ?_
    refine awp_seq ?_
    refine awp_region ?_
    refine al_pure rfl rfl rfl (pure_move rfl (fun _ => rfl)) ?_
    refine al_pure rfl rfl rfl (pure_build rfl Try.underlying62 rfl (fun _ => rfl)) ?_
    refine al_do rfl (does_box rfl rfl rfl rfl) ?_
    refine al_pure rfl rfl rfl (pure_assign rfl (fun _ => rfl)) ?_
    refine al_nil ?_
    refine awp_seq ?_
    refine awp_region ?_
    refine al_pure rfl rfl rfl (pure_move rfl (fun _ => rfl)) ?_
    refine al_pure rfl rfl rfl (pure_move rfl (fun _ => rfl)) ?_
    refine al_pure rfl rfl rfl (pure_move rfl (fun _ => rfl)) ?_
    refine al_pure rfl rfl rfl (pure_loadBoxRow rfl (fun _ => rfl) rfl rfl rfl rfl rfl) ?_
    refine al_callB [⟨.l 35, 0, pc l false, pc (incP 32 n i t l false).2.1 (incP 32 n i t l false).2.2⟩] rfl rfl rfl rfl (by rfl) (by rfl) (by intro p hp; simp only [List.mem_cons, List.not_mem_nil, or_false] at hp; first | (subst hp; rfl) | (rcases hp with hp | hp <;> subst hp <;> rfl)) (by rfl) (include_spec 32 n i t l false (by omega) (by omega) (by omega) (by omega) (by omega)) rfl rfl rfl ?_
    refine al_do rfl (does_alloc rfl rfl rfl) ?_
    refine al_do rfl (does_store rfl rfl rfl rfl rfl rfl rfl) ?_
    refine al_nil ?_
    refine awp_sub (s := { t := [(5, _, _), (10, _, _), (11, _, _), (12, _, _)], bx := [((.l 5), _), ((.l 12), _), ((.l 35), _)], ow := [] }) (sub_mk (⟨⟨_, rfl, rfl⟩, ⟨⟨_, rfl, rfl⟩, ⟨⟨_, rfl, rfl⟩, ⟨⟨_, rfl, rfl⟩, trivial⟩⟩⟩⟩) (⟨⟨_, rfl, rfl⟩, ⟨⟨_, rfl, rfl⟩, ⟨⟨_, rfl, rfl⟩, trivial⟩⟩⟩) trivial) ?_
    refine awp_seq ?_
    refine awp_region ?_
    refine al_pure rfl rfl rfl (pure_move rfl (fun _ => rfl)) ?_
    refine al_pure rfl rfl rfl (pure_nilCheck rfl (fun _ => rfl)) ?_
    refine al_pure rfl rfl rfl (pure_fieldPtr rfl (fun _ => rfl) rfl rfl) ?_
    refine al_pure rfl rfl rfl (pure_loadBox rfl (fun _ => rfl) rfl rfl rfl rfl) ?_
    refine al_pure rfl rfl rfl (pure_not rfl (fun _ => rfl)) ?_
    refine al_pure rfl rfl rfl (pure_move rfl (fun _ => rfl)) ?_
    refine al_pure rfl rfl rfl (pure_move rfl (fun _ => rfl)) ?_
    refine al_pure rfl rfl rfl (pure_nilCheck rfl (fun hh => hh)) ?_
    refine al_pure rfl rfl rfl (pure_fieldPtr rfl (fun hh => hh) rfl rfl) ?_
    refine al_pure rfl rfl rfl (pure_loadBox rfl (fun hh => hh) rfl rfl rfl rfl) ?_
    refine al_pure rfl rfl rfl (pure_lenSl rfl (fun hh => hh) rfl rfl) ?_
    refine al_pure rfl rfl rfl (pure_cmp rfl rfl (fun hh => hh) (fun _ => rfl) rfl) ?_
    refine al_pure rfl rfl rfl (pure_and rfl rfl (fun _ => rfl) (fun _ hi => gP rfl hi)) ?_
    refine al_pure rfl rfl rfl (pure_move rfl (fun _ => rfl)) ?_
    refine al_pure rfl rfl rfl (pure_loadBoxRow rfl (fun _ => rfl) rfl rfl rfl rfl rfl) ?_
    refine al_pure rfl rfl rfl (pure_loadBoxRow rfl (fun _ => rfl) rfl rfl rfl rfl rfl) ?_
    refine al_call rfl rfl rfl rfl rfl rfl (fun _ => rfl) (fun hh => gA ((fun hh => hh) hh) (gA ((fun hh => hh) hh) (rfl))) (same_spec (incP 32 n i t l false).1 h (by omega) (by omega)) rfl ?_
    refine al_pure rfl rfl rfl (pure_and rfl rfl (fun _ => rfl) (fun _ hi => gP rfl hi)) ?_
    refine al_pure rfl rfl rfl (pure_assign rfl (fun _ => rfl)) ?_
    refine al_nil ?_
    refine awp_ret ?_
    repeat (first | refine thenS_ret ?_ | refine blockS_ret ?_)
    refine ret_ok rfl ?_ trivial
    refine xb_eq ?_
    rw [T.rows_len, lenZero]
structure EP where
  x : T
  y : T
  l : List T
  b : Bool
def stepL (p : EP) : EP := ⟨p.x, nodeT p.y (nextT p.l), p.l.tail, p.b || p.l.isEmpty⟩
def stepR (p : EP) : EP := ⟨nodeT (nextT p.l) p.x, nodeT (nextT p.l) p.y, p.l.tail, p.b || p.l.isEmpty⟩
def stop (w : Bool) (old : T) (l : List T) (b : Bool) : EP := if w = true then ⟨old, old, l, b⟩ else ⟨nextT l, nextT l, l.tail, b || l.isEmpty⟩
def extP : Nat → Nat → Nat → Bool → T → List T → Bool → EP
  | 0, _, _, w, old, l, b => stop w old l b
  | f + 1, n, m, w, old, l, b => if n = m then stop w old l b else if n ≤ half m then stepL (extP f n (half m) w old l b) else stepR (extP f (n - half m) (m - half m) false old l b)
theorem pextend_spec : ∀ (f n m : Nat) (w : Bool) (old : T) (l : List T) (b : Bool), 1 ≤ n → n ≤ m → m ≤ f + 1 → m ≤ 100000 → l.length ≤ 100000 →
    Ctr sys 51 [pp, xi n, xi m, xb w, xt old] [pc l b] (.tup [.agg (extP f n m w old l b).x.cells, .agg (extP f n m w old l b).y.cells]) none [pc (extP f n m w old l b).l (extP f n m w old l b).b] := by
  intro f
  induction f with
  | zero =>
    intro n m w old l b hn hnm hf hm hl
    refine spec_intro Try.func51 rfl rfl rfl rfl rfl rfl ?_
    refine awp_seq ?_
    refine awp_region ?_
    refine al_do rfl (does_box rfl rfl rfl rfl) ?_
    refine al_do rfl (does_alloc rfl rfl rfl) ?_
    refine al_do rfl (does_alloc rfl rfl rfl) ?_
    refine al_nil ?_
    refine awp_seq ?_
    refine awp_seq ?_
    refine awp_region ?_
    refine al_pure rfl rfl rfl (pure_move rfl (fun _ => rfl)) ?_
    refine al_pure rfl rfl rfl (pure_move rfl (fun _ => rfl)) ?_
    refine al_pure rfl rfl rfl (pure_cmp rfl rfl (fun _ => rfl) (fun _ => rfl) rfl) ?_
    refine al_nil ?_
    refine awp_cond rfl (fun hc => ?_) (fun hc => ?_)
    · refine awp_seq ?_
      refine awp_seq ?_
      refine awp_region ?_
      refine al_pure rfl rfl rfl (pure_move rfl (fun _ => rfl)) ?_
      refine al_pure rfl rfl rfl (pure_not rfl (fun _ => rfl)) ?_
      refine al_nil ?_
      refine awp_sub (s := { t := [(0, _, _), (1, _, _), (2, _, _), (3, _, _), (9, _, _), (10, _, _), (11, _, _), (22, _, _)], bx := [((.l 9), _), ((.l 10), _), ((.l 11), _), ((.o 0), _)], ow := [] }) (sub_mk (⟨⟨_, rfl, rfl⟩, ⟨⟨_, rfl, rfl⟩, ⟨⟨_, rfl, rfl⟩, ⟨⟨_, rfl, rfl⟩, ⟨⟨_, rfl, rfl⟩, ⟨⟨_, rfl, rfl⟩, ⟨⟨_, rfl, rfl⟩, ⟨⟨_, rfl, rfl⟩, trivial⟩⟩⟩⟩⟩⟩⟩⟩) (⟨⟨_, rfl, rfl⟩, ⟨⟨_, rfl, rfl⟩, ⟨⟨_, rfl, rfl⟩, ⟨⟨_, rfl, rfl⟩, trivial⟩⟩⟩⟩) trivial) ?_
      refine awp_cond rfl (fun hc2 => ?_) (fun hc2 => ?_)
      · simp only [Bool.not_eq_true'] at hc2
        subst hc2
        refine awp_region ?_
        refine al_pure rfl rfl rfl (pure_move rfl (fun _ => rfl)) ?_
        refine al_callB [⟨.o 0, 0, pc l b, pc l.tail (b || l.isEmpty)⟩] rfl rfl rfl rfl (by rfl) (by rfl) (by intro p hp; simp only [List.mem_cons, List.not_mem_nil, or_false] at hp; first | (subst hp; rfl) | (rcases hp with hp | hp <;> subst hp <;> rfl)) (by rfl) (next_spec l b) rfl rfl rfl ?_
        refine al_do rfl (does_store rfl rfl rfl rfl rfl rfl rfl) ?_
        refine al_nil ?_
        refine awp_seq ?_
        refine awp_drawn' (by kernel_rfl) ?_
        refine dr_loadRow rfl rfl rfl rfl rfl rfl rfl (fun _ => rfl) rfl rfl rfl rfl rfl ?_
        refine dr_loadRow rfl rfl rfl rfl rfl rfl rfl (fun _ => rfl) rfl rfl rfl rfl rfl ?_
        refine dr_store rfl rfl rfl rfl rfl rfl rfl rfl rfl rfl rfl rfl ?_
        refine dr_store rfl rfl rfl rfl rfl rfl rfl rfl rfl rfl rfl rfl ?_
        refine dr_nil (by kernel_rfl) ?_
        refine awp_ret ?_
        repeat (first | refine thenS_ret ?_ | refine blockS_ret ?_)
        refine ret_ok rfl ?_ (⟨⟨_, rfl, ?_⟩, trivial⟩)
        · rfl
        · rfl
      · simp only [Bool.not_eq_false'] at hc2
        subst hc2
        refine awp_skip ?_
        refine awp_seq ?_
        refine awp_drawn' (by kernel_rfl) ?_
        refine dr_loadRow rfl rfl rfl rfl rfl rfl rfl (fun _ => rfl) rfl rfl rfl rfl rfl ?_
        refine dr_loadRow rfl rfl rfl rfl rfl rfl rfl (fun _ => rfl) rfl rfl rfl rfl rfl ?_
        refine dr_store rfl rfl rfl rfl rfl rfl rfl rfl rfl rfl rfl rfl ?_
        refine dr_store rfl rfl rfl rfl rfl rfl rfl rfl rfl rfl rfl rfl ?_
        refine dr_nil (by kernel_rfl) ?_
        refine awp_ret ?_
        repeat (first | refine thenS_ret ?_ | refine blockS_ret ?_)
        refine ret_ok rfl ?_ (⟨⟨_, rfl, ?_⟩, trivial⟩)
        · rfl
        · rfl
    · simp only [beq_eq_false_iff_ne, ne_eq] at hc
      omega
  | succ f ih =>
    intro n m w old l b hn hnm hf hm hl
    refine spec_intro Try.func51 rfl rfl rfl rfl rfl rfl ?_
    refine awp_seq ?_
    refine awp_region ?_
    refine al_do rfl (does_box rfl rfl rfl rfl) ?_
    refine al_do rfl (does_alloc rfl rfl rfl) ?_
    refine al_do rfl (does_alloc rfl rfl rfl) ?_
    refine al_nil ?_
    refine awp_seq ?_
    refine awp_seq ?_
    refine awp_region ?_
    refine al_pure rfl rfl rfl (pure_move rfl (fun _ => rfl)) ?_
    refine al_pure rfl rfl rfl (pure_move rfl (fun _ => rfl)) ?_
    refine al_pure rfl rfl rfl (pure_cmp rfl rfl (fun _ => rfl) (fun _ => rfl) rfl) ?_
    refine al_nil ?_
    refine awp_cond rfl (fun hc => ?_) (fun hc => ?_)
    · simp only [beq_iff_eq] at hc
      rw [extP, if_pos (by omega)]
      refine awp_seq ?_
      refine awp_seq ?_
      refine awp_region ?_
      refine al_pure rfl rfl rfl (pure_move rfl (fun _ => rfl)) ?_
      refine al_pure rfl rfl rfl (pure_not rfl (fun _ => rfl)) ?_
      refine al_nil ?_
      refine awp_sub (s := { t := [(0, _, _), (1, _, _), (2, _, _), (3, _, _), (9, _, _), (10, _, _), (11, _, _), (22, _, _)], bx := [((.l 9), _), ((.l 10), _), ((.l 11), _), ((.o 0), _)], ow := [] }) (sub_mk (⟨⟨_, rfl, rfl⟩, ⟨⟨_, rfl, rfl⟩, ⟨⟨_, rfl, rfl⟩, ⟨⟨_, rfl, rfl⟩, ⟨⟨_, rfl, rfl⟩, ⟨⟨_, rfl, rfl⟩, ⟨⟨_, rfl, rfl⟩, ⟨⟨_, rfl, rfl⟩, trivial⟩⟩⟩⟩⟩⟩⟩⟩) (⟨⟨_, rfl, rfl⟩, ⟨⟨_, rfl, rfl⟩, ⟨⟨_, rfl, rfl⟩, ⟨⟨_, rfl, rfl⟩, trivial⟩⟩⟩⟩) trivial) ?_
      refine awp_cond rfl (fun hc2 => ?_) (fun hc2 => ?_)
      · simp only [Bool.not_eq_true'] at hc2
        subst hc2
        refine awp_region ?_
        refine al_pure rfl rfl rfl (pure_move rfl (fun _ => rfl)) ?_
        refine al_callB [⟨.o 0, 0, pc l b, pc l.tail (b || l.isEmpty)⟩] rfl rfl rfl rfl (by rfl) (by rfl) (by intro p hp; simp only [List.mem_cons, List.not_mem_nil, or_false] at hp; first | (subst hp; rfl) | (rcases hp with hp | hp <;> subst hp <;> rfl)) (by rfl) (next_spec l b) rfl rfl rfl ?_
        refine al_do rfl (does_store rfl rfl rfl rfl rfl rfl rfl) ?_
        refine al_nil ?_
        refine awp_seq ?_
        refine awp_drawn' (by kernel_rfl) ?_
        refine dr_loadRow rfl rfl rfl rfl rfl rfl rfl (fun _ => rfl) rfl rfl rfl rfl rfl ?_
        refine dr_loadRow rfl rfl rfl rfl rfl rfl rfl (fun _ => rfl) rfl rfl rfl rfl rfl ?_
        refine dr_store rfl rfl rfl rfl rfl rfl rfl rfl rfl rfl rfl rfl ?_
        refine dr_store rfl rfl rfl rfl rfl rfl rfl rfl rfl rfl rfl rfl ?_
        refine dr_nil (by kernel_rfl) ?_
        refine awp_ret ?_
        repeat (first | refine thenS_ret ?_ | refine blockS_ret ?_)
        refine ret_ok rfl ?_ (⟨⟨_, rfl, ?_⟩, trivial⟩)
        · rfl
        · rfl
      · simp only [Bool.not_eq_false'] at hc2
        subst hc2
        refine awp_skip ?_
        refine awp_seq ?_
        refine awp_drawn' (by kernel_rfl) ?_
        refine dr_loadRow rfl rfl rfl rfl rfl rfl rfl (fun _ => rfl) rfl rfl rfl rfl rfl ?_
        refine dr_loadRow rfl rfl rfl rfl rfl rfl rfl (fun _ => rfl) rfl rfl rfl rfl rfl ?_
        refine dr_store rfl rfl rfl rfl rfl rfl rfl rfl rfl rfl rfl rfl ?_
        refine dr_store rfl rfl rfl rfl rfl rfl rfl rfl rfl rfl rfl rfl ?_
        refine dr_nil (by kernel_rfl) ?_
        refine awp_ret ?_
        repeat (first | refine thenS_ret ?_ | refine blockS_ret ?_)
        refine ret_ok rfl ?_ (⟨⟨_, rfl, ?_⟩, trivial⟩)
        · rfl
        · rfl
    · simp only [beq_eq_false_iff_ne, ne_eq] at hc
      have hb := half_bound (n := m) (by omega)
      refine awp_skip ?_
      refine awp_seq ?_
      refine awp_region ?_
      refine al_pure rfl rfl rfl (pure_move rfl (fun _ => rfl)) ?_
      refine al_call rfl rfl rfl rfl rfl rfl (fun _ => rfl) (fun _ => rfl) (half_spec m (by omega) (by omega)) rfl ?_
      refine al_pure rfl rfl rfl (pure_assign rfl (fun _ => rfl)) ?_
      refine al_nil ?_
      refine awp_sub (s := { t := [(0, _, _), (1, _, _), (2, _, _), (3, _, _), (9, _, _), (10, _, _), (11, _, _), (12, _, _)], bx := [((.l 9), _), ((.l 10), _), ((.l 11), _), ((.o 0), _)], ow := [] }) (sub_mk (⟨⟨_, rfl, rfl⟩, ⟨⟨_, rfl, rfl⟩, ⟨⟨_, rfl, rfl⟩, ⟨⟨_, rfl, rfl⟩, ⟨⟨_, rfl, rfl⟩, ⟨⟨_, rfl, rfl⟩, ⟨⟨_, rfl, rfl⟩, ⟨⟨_, rfl, rfl⟩, trivial⟩⟩⟩⟩⟩⟩⟩⟩) (⟨⟨_, rfl, rfl⟩, ⟨⟨_, rfl, rfl⟩, ⟨⟨_, rfl, rfl⟩, ⟨⟨_, rfl, rfl⟩, trivial⟩⟩⟩⟩) trivial) ?_
      refine awp_seq ?_
      refine awp_seq ?_
      refine awp_region ?_
      refine al_pure rfl rfl rfl (pure_move rfl (fun _ => rfl)) ?_
      refine al_pure rfl rfl rfl (pure_move rfl (fun _ => rfl)) ?_
      refine al_pure rfl rfl rfl (pure_cmp rfl rfl (fun _ => rfl) (fun _ => rfl) rfl) ?_
      refine al_nil ?_
      refine awp_cond rfl (fun hc2 => ?_) (fun hc2 => ?_)
      · simp only [decide_eq_true_eq] at hc2
        rw [extP, if_neg (by omega), if_pos (by omega)]
        have hs := ih n (half m) w old l b (by omega) (by omega) (by omega) (by omega) (by omega)
        generalize extP f n (half m) w old l b = p at hs
        refine awp_seq ?_
        refine awp_region ?_
        refine al_pure rfl rfl rfl (pure_move rfl (fun _ => rfl)) ?_
        refine al_pure rfl rfl rfl (pure_move rfl (fun _ => rfl)) ?_
        refine al_pure rfl rfl rfl (pure_move rfl (fun _ => rfl)) ?_
        refine al_pure rfl rfl rfl (pure_move rfl (fun _ => rfl)) ?_
        refine al_pure rfl rfl rfl (pure_loadBoxRow rfl (fun _ => rfl) rfl rfl rfl rfl rfl) ?_
        refine al_callB [⟨.o 0, 0, pc l b, pc p.l p.b⟩] rfl rfl rfl rfl (by rfl) (by rfl) (by intro p hp; simp only [List.mem_cons, List.not_mem_nil, or_false] at hp; first | (subst hp; rfl) | (rcases hp with hp | hp <;> subst hp <;> rfl)) (by rfl) (hs) rfl rfl rfl ?_
        refine al_pure rfl rfl rfl (pure_move rfl (fun _ => rfl)) ?_
        refine al_pure rfl rfl rfl (pure_extract rfl (fun _ => rfl) rfl) ?_
        refine al_pure rfl rfl rfl (pure_extract rfl (fun _ => rfl) rfl) ?_
        refine al_do rfl (does_alloc rfl rfl rfl) ?_
        refine al_do rfl (does_alloc rfl rfl rfl) ?_
        refine al_do rfl (does_store rfl rfl rfl rfl rfl rfl rfl) ?_
        refine al_do rfl (does_store rfl rfl rfl rfl rfl rfl rfl) ?_
        refine al_nil ?_
        refine awp_sub (s := { t := [(0, _, _), (1, _, _), (2, _, _), (9, _, _), (10, _, _), (11, _, _), (12, _, _), (13, _, _), (14, _, _)], bx := [((.l 9), _), ((.l 10), _), ((.l 11), _), ((.l 13), _), ((.l 14), _), ((.o 0), _)], ow := [] }) (sub_mk (⟨⟨_, rfl, rfl⟩, ⟨⟨_, rfl, rfl⟩, ⟨⟨_, rfl, rfl⟩, ⟨⟨_, rfl, rfl⟩, ⟨⟨_, rfl, rfl⟩, ⟨⟨_, rfl, rfl⟩, ⟨⟨_, rfl, rfl⟩, ⟨⟨_, rfl, rfl⟩, ⟨⟨_, rfl, rfl⟩, trivial⟩⟩⟩⟩⟩⟩⟩⟩⟩) (⟨⟨_, rfl, rfl⟩, ⟨⟨_, rfl, rfl⟩, ⟨⟨_, rfl, rfl⟩, ⟨⟨_, rfl, rfl⟩, ⟨⟨_, rfl, rfl⟩, ⟨⟨_, rfl, rfl⟩, trivial⟩⟩⟩⟩⟩⟩) trivial) ?_
        refine awp_seq ?_
        refine awp_drawn' (by kernel_rfl) ?_
        refine dr_loadRow rfl rfl rfl rfl rfl rfl rfl (fun _ => rfl) rfl rfl rfl rfl rfl ?_
        refine dr_loadRow rfl rfl rfl rfl rfl rfl rfl (fun _ => rfl) rfl rfl rfl rfl rfl ?_
        refine dr_pure rfl rfl rfl rfl (pure_move rfl (fun _ => rfl)) ?_
        refine dr_callB ⟨.o 0, 0, pc p.l p.b, pc p.l.tail (p.b || p.l.isEmpty)⟩ rfl rfl rfl rfl rfl (by rfl) (by rfl) rfl rfl (next_spec _ _) rfl rfl rfl ?_
        refine dr_callN rfl rfl rfl rfl rfl rfl rfl (fun _ => rfl) (fun _ => rfl) (node2_spec _ _) rfl ?_
        refine dr_store rfl rfl rfl rfl rfl rfl rfl rfl rfl rfl rfl rfl ?_
        refine dr_store rfl rfl rfl rfl rfl rfl rfl rfl rfl rfl rfl rfl ?_
        refine dr_nil (by kernel_rfl) ?_
        refine awp_ret ?_
        repeat (first | refine thenS_ret ?_ | refine blockS_ret ?_)
        refine ret_ok rfl ?_ (⟨⟨_, rfl, ?_⟩, trivial⟩)
        · rfl
        · rfl
      · simp only [decide_eq_false_iff_not] at hc2
        rw [extP, if_neg (by omega), if_neg (by omega)]
        have hc1 : (n : Int) - (half m : Nat) = ((n - half m : Nat) : Int) := by omega
        have hc3 : (m : Int) - (half m : Nat) = ((m - half m : Nat) : Int) := by omega
        have hs := ih (n - half m) (m - half m) false old l b (by omega) (by omega) (by omega) (by omega) (by omega)
        generalize extP f (n - half m) (m - half m) false old l b = p at hs
        refine awp_skip ?_
        refine awp_seq ?_
        refine awp_region ?_
        refine al_pure rfl rfl rfl (pure_move rfl (fun _ => rfl)) ?_
        refine al_pure rfl rfl rfl (pure_move rfl (fun _ => rfl)) ?_
        refine al_pure rfl rfl rfl (pure_move rfl (fun _ => rfl)) ?_
        refine al_pure rfl rfl rfl (pure_arith rfl rfl (fun _ => rfl) (fun _ => rfl) rfl (IntWalk.i64_in _ (by omega))) ?_
        refine al_pure rfl rfl rfl (pure_move rfl (fun _ => rfl)) ?_
        refine al_pure rfl rfl rfl (pure_move rfl (fun _ => rfl)) ?_
        refine al_pure rfl rfl rfl (pure_arith rfl rfl (fun _ => rfl) (fun _ => rfl) rfl (IntWalk.i64_in _ (by omega))) ?_
        refine al_pure rfl rfl rfl (pure_loadBoxRow rfl (fun _ => rfl) rfl rfl rfl rfl rfl) ?_
        rw [hc1, hc3]
        refine al_callB [⟨.o 0, 0, pc l b, pc p.l p.b⟩] rfl rfl rfl rfl (by rfl) (by rfl) (by intro p hp; simp only [List.mem_cons, List.not_mem_nil, or_false] at hp; first | (subst hp; rfl) | (rcases hp with hp | hp <;> subst hp <;> rfl)) (by rfl) (hs) rfl rfl rfl ?_
        refine al_pure rfl rfl rfl (pure_move rfl (fun _ => rfl)) ?_
        refine al_pure rfl rfl rfl (pure_extract rfl (fun _ => rfl) rfl) ?_
        refine al_pure rfl rfl rfl (pure_extract rfl (fun _ => rfl) rfl) ?_
        refine al_do rfl (does_alloc rfl rfl rfl) ?_
        refine al_do rfl (does_alloc rfl rfl rfl) ?_
        refine al_do rfl (does_store rfl rfl rfl rfl rfl rfl rfl) ?_
        refine al_do rfl (does_store rfl rfl rfl rfl rfl rfl rfl) ?_
        refine al_nil ?_
        refine awp_sub (s := { t := [(0, _, _), (10, _, _), (11, _, _), (15, _, _), (16, _, _)], bx := [((.l 10), _), ((.l 11), _), ((.l 15), _), ((.l 16), _), ((.o 0), _)], ow := [] }) (sub_mk (⟨⟨_, rfl, rfl⟩, ⟨⟨_, rfl, rfl⟩, ⟨⟨_, rfl, rfl⟩, ⟨⟨_, rfl, rfl⟩, ⟨⟨_, rfl, rfl⟩, trivial⟩⟩⟩⟩⟩) (⟨⟨_, rfl, rfl⟩, ⟨⟨_, rfl, rfl⟩, ⟨⟨_, rfl, rfl⟩, ⟨⟨_, rfl, rfl⟩, ⟨⟨_, rfl, rfl⟩, trivial⟩⟩⟩⟩⟩) trivial) ?_
        refine awp_seq ?_
        refine awp_region ?_
        refine al_pure rfl rfl rfl (pure_move rfl (fun _ => rfl)) ?_
        refine al_callB [⟨.o 0, 0, pc p.l p.b, pc p.l.tail (p.b || p.l.isEmpty)⟩] rfl rfl rfl rfl (by rfl) (by rfl) (by intro p hp; simp only [List.mem_cons, List.not_mem_nil, or_false] at hp; first | (subst hp; rfl) | (rcases hp with hp | hp <;> subst hp <;> rfl)) (by rfl) (next_spec _ _) rfl rfl rfl ?_
        refine al_do rfl (does_alloc rfl rfl rfl) ?_
        refine al_do rfl (does_store rfl rfl rfl rfl rfl rfl rfl) ?_
        refine al_nil ?_
        refine awp_seq ?_
        refine awp_drawn' (by kernel_rfl) ?_
        refine dr_loadRow rfl rfl rfl rfl rfl rfl rfl (fun _ => rfl) rfl rfl rfl rfl rfl ?_
        refine dr_loadRow rfl rfl rfl rfl rfl rfl rfl (fun _ => rfl) rfl rfl rfl rfl rfl ?_
        refine dr_callN rfl rfl rfl rfl rfl rfl rfl (fun _ => rfl) (fun _ => rfl) (node2_spec _ _) rfl ?_
        refine dr_loadRow rfl rfl rfl rfl rfl rfl rfl (fun _ => rfl) rfl rfl rfl rfl rfl ?_
        refine dr_loadRow rfl rfl rfl rfl rfl rfl rfl (fun _ => rfl) rfl rfl rfl rfl rfl ?_
        refine dr_callN rfl rfl rfl rfl rfl rfl rfl (fun _ => rfl) (fun _ => rfl) (node2_spec _ _) rfl ?_
        refine dr_store rfl rfl rfl rfl rfl rfl rfl rfl rfl rfl rfl rfl ?_
        refine dr_store rfl rfl rfl rfl rfl rfl rfl rfl rfl rfl rfl rfl ?_
        refine dr_nil (by kernel_rfl) ?_
        refine awp_ret ?_
        repeat (first | refine thenS_ret ?_ | refine blockS_ret ?_)
        refine ret_ok rfl ?_ (⟨⟨_, rfl, ?_⟩, trivial⟩)
        · rfl
        · rfl
theorem extP_mem : ∀ (f n m : Nat) (w : Bool) (old : T) (l : List T) (b : Bool) (x : T), x ∈ (extP f n m w old l b).l → x ∈ l := by
  have hst : ∀ (w : Bool) (old : T) (l : List T) (b : Bool) (x : T), x ∈ (stop w old l b).l → x ∈ l := by
    intro w old l b x h
    unfold stop at h
    split at h
    · exact h
    · exact List.mem_of_mem_tail h
  intro f
  induction f with
  | zero => intro n m w old l b x h; exact hst w old l b x h
  | succ f ih =>
    intro n m w old l b x h
    rw [extP] at h
    split at h
    · exact hst w old l b x h
    · split at h
      · exact ih _ _ _ _ _ _ x (List.mem_of_mem_tail h)
      · exact ih _ _ _ _ _ _ x (List.mem_of_mem_tail h)
theorem extP_size {M : Nat} (hM : 1 ≤ M) : ∀ (f n m : Nat) (w : Bool) (old : T) (l : List T) (b : Bool), (∀ x ∈ l, x.size ≤ M) → old.size ≤ M →
    (extP f n m w old l b).x.size ≤ M + f * (M + 5) ∧ (extP f n m w old l b).y.size ≤ M + f * (M + 5) := by
  have hst : ∀ (w : Bool) (old : T) (l : List T) (b : Bool), (∀ x ∈ l, x.size ≤ M) → old.size ≤ M → (stop w old l b).x.size ≤ M ∧ (stop w old l b).y.size ≤ M := by
    intro w old l b h ho
    have := nextT_size hM h
    unfold stop
    split
    · exact ⟨ho, ho⟩
    · exact ⟨this, this⟩
  intro f
  induction f with
  | zero => intro n m w old l b h ho; have := hst w old l b h ho; rw [extP]; omega
  | succ f ih =>
    intro n m w old l b h ho
    have e : (f + 1) * (M + 5) = f * (M + 5) + (M + 5) := by rw [Nat.succ_mul]
    rw [extP]
    split
    · have := hst w old l b h ho; omega
    · split
      · have h1 := ih n (half m) w old l b h ho
        have h2 := nextT_size hM fun x hx => h x (extP_mem f n (half m) w old l b x hx)
        simp only [stepL, nodeT_size]; omega
      · have h1 := ih (n - half m) (m - half m) false old l b h ho
        have h2 := nextT_size hM fun x hx => h x (extP_mem f (n - half m) (m - half m) false old l b x hx)
        simp only [stepR, nodeT_size]; omega
def chkE (old : T) (n : Int) (h : T) (m : Int) (l : List T) : Bool :=
  if m < 1 ∨ 32 < m ∨ n < 1 ∨ m < n ∨ 32 < l.length then false else
    !(extP 32 n.toNat m.toNat true old l false).b && (extP 32 n.toNat m.toNat true old l false).l.isEmpty && ((extP 32 n.toNat m.toNat true old l false).x.cmp old == 0) && ((extP 32 n.toNat m.toNat true old l false).y.cmp h == 0)
theorem CheckExtend_spec (old : T) (n : Int) (h : T) (m : Int) (l : List T) (hh : h.size ≤ 500000) (ho : old.size ≤ 10000) (hl : ∀ x ∈ l, x.size ≤ 10000) :
    Ctr sys 26 [xt old, xi n, xt h, xi m, xl l] [] (xb (chkE old n h m l)) none [] := by
  refine spec_intro Try.func26 rfl rfl rfl rfl rfl rfl ?_
  refine awp_seq ?_
  refine awp_region ?_
  refine al_do rfl (does_box rfl rfl rfl rfl) ?_
  refine al_do rfl (does_box rfl rfl rfl rfl) ?_
  refine al_pure rfl rfl rfl (pure_assign rfl (fun _ => rfl)) ?_
  refine al_nil ?_
  refine awp_seq ?_
  refine awp_seq ?_
  refine awp_region ?_
  refine al_pure rfl rfl rfl (pure_move rfl (fun _ => rfl)) ?_
  refine al_pure rfl rfl rfl (pure_cmp rfl rfl (fun _ => rfl) (fun _ => rfl) rfl) ?_
  refine al_pure rfl rfl rfl (pure_move rfl (fun _ => rfl)) ?_
  refine al_pure rfl rfl rfl (pure_move rfl (fun _ => rfl)) ?_
  refine al_pure rfl rfl rfl (pure_cmp rfl rfl (fun hh => hh) (fun _ => rfl) rfl) ?_
  refine al_pure rfl rfl rfl (pure_or rfl rfl (fun _ => rfl) (fun _ hi => gP rfl hi)) ?_
  refine al_pure rfl rfl rfl (pure_move rfl (fun _ => rfl)) ?_
  refine al_pure rfl rfl rfl (pure_move rfl (fun _ => rfl)) ?_
  refine al_pure rfl rfl rfl (pure_cmp rfl rfl (fun hh => hh) (fun _ => rfl) rfl) ?_
  refine al_pure rfl rfl rfl (pure_or rfl rfl (fun _ => rfl) (fun _ hi => gP rfl hi)) ?_
  refine al_pure rfl rfl rfl (pure_move rfl (fun _ => rfl)) ?_
  refine al_pure rfl rfl rfl (pure_move rfl (fun _ => rfl)) ?_
  refine al_pure rfl rfl rfl (pure_move rfl (fun _ => rfl)) ?_
  refine al_pure rfl rfl rfl (pure_cmp rfl rfl (fun hh => hh) (fun hh => hh) rfl) ?_
  refine al_pure rfl rfl rfl (pure_or rfl rfl (fun _ => rfl) (fun _ hi => gP rfl hi)) ?_
  refine al_pure rfl rfl rfl (pure_move rfl (fun _ => rfl)) ?_
  refine al_pure rfl rfl rfl (pure_move rfl (fun _ => rfl)) ?_
  refine al_pure rfl rfl rfl (pure_lenSl rfl (fun hh => hh) rfl rfl) ?_
  refine al_pure rfl rfl rfl (pure_cmp rfl rfl (fun hh => hh) (fun _ => rfl) rfl) ?_
  refine al_pure rfl rfl rfl (pure_or rfl rfl (fun _ => rfl) (fun _ hi => gP rfl hi)) ?_
  refine al_nil ?_
  refine awp_sub (s := { t := [(1, _, _), (3, _, _), (4, _, _), (5, _, _), (7, _, _), (10, _, _), (33, _, _)], bx := [((.l 5), _), ((.l 7), _)], ow := [] }) (sub_mk (⟨⟨_, rfl, rfl⟩, ⟨⟨_, rfl, rfl⟩, ⟨⟨_, rfl, rfl⟩, ⟨⟨_, rfl, rfl⟩, ⟨⟨_, rfl, rfl⟩, ⟨⟨_, rfl, rfl⟩, ⟨⟨_, rfl, rfl⟩, trivial⟩⟩⟩⟩⟩⟩⟩) (⟨⟨_, rfl, rfl⟩, ⟨⟨_, rfl, rfl⟩, trivial⟩⟩) trivial) ?_
  refine awp_cond rfl (fun hc => ?_) (fun hc => ?_)
  · refine awp_seq ?_
    refine awp_region ?_
    refine al_pure rfl rfl rfl (pure_assign rfl (fun _ => rfl)) ?_
    refine al_nil ?_
    refine awp_ret ?_
    repeat (first | refine thenS_ret ?_ | refine blockS_ret ?_)
    refine ret_ok rfl ?_ trivial
    refine xb_eq ?_
    simp only [Bool.or_eq_true, decide_eq_true_eq, T.rows_len] at hc
    rw [chkE, if_pos (by omega)]
  · simp only [Bool.or_eq_false_iff, decide_eq_false_iff_not, T.rows_len] at hc
    obtain ⟨n, rfl⟩ : ∃ m : Nat, n = m := ⟨n.toNat, by omega⟩
    obtain ⟨m, rfl⟩ : ∃ k : Nat, m = k := ⟨m.toNat, by omega⟩
    rw [chkE, if_neg (by omega), Int.toNat_natCast, Int.toNat_natCast]
    have hsz := extP_size (M := 10000) (by omega) 32 n m true old l false hl ho
    have hs := pextend_spec 32 n m true old l false (by omega) (by omega) (by omega) (by omega) (by omega)
    generalize extP 32 n m true old l false = p at hs hsz ⊢
    refine awp_skip ?_
    refine awp_seq ?_
    refine awp_region ?_
    refine al_pure rfl rfl rfl (pure_move rfl (fun _ => rfl)) ?_
    refine al_pure rfl rfl rfl (pure_build rfl Try.underlying62 rfl (fun _ => rfl)) ?_
    refine al_do rfl (does_box rfl rfl rfl rfl) ?_
    refine al_pure rfl rfl rfl (pure_assign rfl (fun _ => rfl)) ?_
    refine al_nil ?_
    refine awp_seq ?_
    refine awp_region ?_
    refine al_pure rfl rfl rfl (pure_move rfl (fun _ => rfl)) ?_
    refine al_pure rfl rfl rfl (pure_move rfl (fun _ => rfl)) ?_
    refine al_pure rfl rfl rfl (pure_move rfl (fun _ => rfl)) ?_
    refine al_pure rfl rfl rfl (pure_loadBoxRow rfl (fun _ => rfl) rfl rfl rfl rfl rfl) ?_
    refine al_callB [⟨.l 36, 0, pc l false, pc p.l p.b⟩] rfl rfl rfl rfl (by rfl) (by rfl) (by intro p hp; simp only [List.mem_cons, List.not_mem_nil, or_false] at hp; first | (subst hp; rfl) | (rcases hp with hp | hp <;> subst hp <;> rfl)) (by rfl) (hs) rfl rfl rfl ?_
    refine al_pure rfl rfl rfl (pure_move rfl (fun _ => rfl)) ?_
    refine al_pure rfl rfl rfl (pure_extract rfl (fun _ => rfl) rfl) ?_
    refine al_pure rfl rfl rfl (pure_extract rfl (fun _ => rfl) rfl) ?_
    refine al_do rfl (does_alloc rfl rfl rfl) ?_
    refine al_do rfl (does_alloc rfl rfl rfl) ?_
    refine al_do rfl (does_store rfl rfl rfl rfl rfl rfl rfl) ?_
    refine al_do rfl (does_store rfl rfl rfl rfl rfl rfl rfl) ?_
    refine al_nil ?_
    refine awp_sub (s := { t := [(5, _, _), (7, _, _), (10, _, _), (11, _, _), (12, _, _), (13, _, _)], bx := [((.l 5), _), ((.l 7), _), ((.l 12), _), ((.l 13), _), ((.l 36), _)], ow := [] }) (sub_mk (⟨⟨_, rfl, rfl⟩, ⟨⟨_, rfl, rfl⟩, ⟨⟨_, rfl, rfl⟩, ⟨⟨_, rfl, rfl⟩, ⟨⟨_, rfl, rfl⟩, ⟨⟨_, rfl, rfl⟩, trivial⟩⟩⟩⟩⟩⟩) (⟨⟨_, rfl, rfl⟩, ⟨⟨_, rfl, rfl⟩, ⟨⟨_, rfl, rfl⟩, ⟨⟨_, rfl, rfl⟩, ⟨⟨_, rfl, rfl⟩, trivial⟩⟩⟩⟩⟩) trivial) ?_
    refine awp_seq ?_
    refine awp_region ?_
    refine al_pure rfl rfl rfl (pure_move rfl (fun _ => rfl)) ?_
    refine al_pure rfl rfl rfl (pure_nilCheck rfl (fun _ => rfl)) ?_
    refine al_pure rfl rfl rfl (pure_fieldPtr rfl (fun _ => rfl) rfl rfl) ?_
    refine al_pure rfl rfl rfl (pure_loadBox rfl (fun _ => rfl) rfl rfl rfl rfl) ?_
    refine al_pure rfl rfl rfl (pure_not rfl (fun _ => rfl)) ?_
    refine al_pure rfl rfl rfl (pure_move rfl (fun _ => rfl)) ?_
    refine al_pure rfl rfl rfl (pure_move rfl (fun _ => rfl)) ?_
    refine al_pure rfl rfl rfl (pure_nilCheck rfl (fun hh => hh)) ?_
    refine al_pure rfl rfl rfl (pure_fieldPtr rfl (fun hh => hh) rfl rfl) ?_
    refine al_pure rfl rfl rfl (pure_loadBox rfl (fun hh => hh) rfl rfl rfl rfl) ?_
    refine al_pure rfl rfl rfl (pure_lenSl rfl (fun hh => hh) rfl rfl) ?_
    refine al_pure rfl rfl rfl (pure_cmp rfl rfl (fun hh => hh) (fun _ => rfl) rfl) ?_
    refine al_pure rfl rfl rfl (pure_and rfl rfl (fun _ => rfl) (fun _ hi => gP rfl hi)) ?_
    refine al_pure rfl rfl rfl (pure_move rfl (fun _ => rfl)) ?_
    refine al_pure rfl rfl rfl (pure_loadBoxRow rfl (fun _ => rfl) rfl rfl rfl rfl rfl) ?_
    refine al_pure rfl rfl rfl (pure_loadBoxRow rfl (fun _ => rfl) rfl rfl rfl rfl rfl) ?_
    refine al_call rfl rfl rfl rfl rfl rfl (fun _ => rfl) (fun hh => gA ((fun hh => hh) hh) (gA ((fun hh => hh) hh) (rfl))) (same_spec p.x old (by omega) (by omega)) rfl ?_
    refine al_pure rfl rfl rfl (pure_and rfl rfl (fun _ => rfl) (fun _ hi => gP rfl hi)) ?_
    refine al_pure rfl rfl rfl (pure_move rfl (fun _ => rfl)) ?_
    refine al_pure rfl rfl rfl (pure_loadBoxRow rfl (fun _ => rfl) rfl rfl rfl rfl rfl) ?_
    refine al_pure rfl rfl rfl (pure_loadBoxRow rfl (fun _ => rfl) rfl rfl rfl rfl rfl) ?_
    refine al_call rfl rfl rfl rfl rfl rfl (fun _ => rfl) (fun hh => gA ((fun hh => hh) hh) (gA ((fun hh => hh) hh) (rfl))) (same_spec p.y h (by omega) (by omega)) rfl ?_
    refine al_pure rfl rfl rfl (pure_and rfl rfl (fun _ => rfl) (fun _ hi => gP rfl hi)) ?_
    refine al_pure rfl rfl rfl (pure_assign rfl (fun _ => rfl)) ?_
    refine al_nil ?_
    refine awp_ret ?_
    repeat (first | refine thenS_ret ?_ | refine blockS_ret ?_)
    refine ret_ok rfl ?_ trivial
    refine xb_eq ?_
    rw [T.rows_len, lenZero]
end Go.Proofs.Ytginljdgdllhfaa
