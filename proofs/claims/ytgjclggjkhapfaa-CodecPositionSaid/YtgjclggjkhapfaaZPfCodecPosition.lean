/- The given statement CodecPosition: for every input the law returns true, and the input reads as before. No condition. -/
import Derived.Test.YtgjclggjkhapfaaM6
import Derived.Test.YtgjclggjkhapfaaRows
import Derived.ProofKit
import Derived.OpenShut
import Derived.ChangeOld
/- Tables of drafts: as data, what is made of them, that it is valid; contracts. -/
set_option linter.unusedVariables false
set_option linter.unusedSimpArgs false
namespace Go.Proofs.Ytgjclggjkhapfaa
open Go Go.Abs
structure Dr where
  kind : UInt8
  a : UInt8
  b : UInt8
  deriving Inhabited
def Dr.cells (d : Dr) : List C := [.i .u8 (d.kind.toNat : Int), .i .u8 (d.a.toNat : Int), .i .u8 (d.b.toNat : Int)]
def Dr.rows (l : List Dr) : List (List C) := l.map Dr.cells
theorem Dr.rows_len (l : List Dr) : (Dr.rows l).length = l.length := by simp [Dr.rows]
theorem Dr.rows_at {l : List Dr} {k : Nat} (h : k < l.length) : (Dr.rows l)[k]? = some (l.getD k default).cells := by
  rw [Dr.rows, List.getElem?_map, List.getD_eq_getElem?_getD, List.getElem?_eq_getElem h]; rfl
def ddR (d : List (List Dr)) : List (List C) := d.map fun l => [C.sl 3 (Dr.rows l)]
theorem ddR_len (d : List (List Dr)) : (ddR d).length = d.length := by simp [ddR]
theorem ddR_at {d : List (List Dr)} {k : Nat} (h : k < d.length) : (ddR d)[k]? = some [C.sl 3 (Dr.rows (d.getD k []))] := by
  rw [ddR, List.getElem?_map, List.getD_eq_getElem?_getD, List.getElem?_eq_getElem h]; rfl
abbrev xdd (d : List (List Dr)) : X := .v (.c (.sl 1 (ddR d)))
def tagB (d : Dr) : List UInt8 := if d.b.toNat % 3 = 0 then [UInt8.ofNat (d.a.toNat % 4)] ++ [UInt8.ofNat (d.b.toNat % 4)] else [UInt8.ofNat (d.a.toNat % 4)]
def madeF (t : List Fm) (d : Dr) (last : Bool) : Fd :=
  if d.kind.toNat % 6 = 1 then ⟨2, [], 1 + (d.a.toNat % 3 : Nat), 0, 0⟩
  else if d.kind.toNat % 6 = 2 then ⟨3, [], (d.a.toNat % 4 : Nat), 0, 0⟩
  else if d.kind.toNat % 6 = 3 then ⟨4, [], 0, (d.a.toNat % 8 : Nat), (d.a.toNat % 8 : Nat) + (d.b.toNat % 8 : Nat)⟩
  else if d.kind.toNat % 6 = 4 ∧ 0 < t.length ∧ plainB (t.getD (d.a.toNat % t.length) default).fields = true then ⟨5, [], (d.a.toNat % t.length : Nat), 0, 0⟩
  else if d.kind.toNat % 6 = 5 ∧ last = true then ⟨6, [], 0, (d.a.toNat % 3 : Nat), (d.a.toNat % 3 : Nat) + (d.b.toNat % 4 : Nat)⟩
  else ⟨1, tagB d, 0, 0, 0⟩
def madeP (t : List Fm) (l : List Dr) (k : Nat) : List Fd := (List.range k).map fun j => madeF t (l.getD j default) (decide (j + 1 = l.length) || decide (j = 3))
def tagT : Fd := ⟨1, [116], 0, 0, 0⟩
def madeL (t : List Fm) (l : List Dr) : List Fd := if min l.length 4 = 0 then [tagT] else madeP t l (min l.length 4)
def nameI (i : Nat) : List UInt8 := [102, UInt8.ofNat (48 + i)]
def madeT (d : List (List Dr)) : Nat → List Fm
  | 0 => []
  | n + 1 => madeT d n ++ [⟨nameI n, madeL (madeT d n) (d.getD n [])⟩]
def madeE (d : List (List Dr)) : List Fm := madeT d (min d.length 4)
theorem madeP_len (t : List Fm) (l : List Dr) (k : Nat) : (madeP t l k).length = k := by simp [madeP]
theorem madeP_get {t : List Fm} {l : List Dr} {k j : Nat} (h : j < k) : (madeP t l k).getD j default = madeF t (l.getD j default) (decide (j + 1 = l.length) || decide (j = 3)) := by
  unfold madeP
  rw [List.getD_eq_getElem?_getD, List.getElem?_map, List.getElem?_range h]; rfl
theorem madeP_snoc (t : List Fm) (l : List Dr) (k : Nat) : madeP t l (k + 1) = madeP t l k ++ [madeF t (l.getD k default) (decide (k + 1 = l.length) || decide (k = 3))] := by
  simp [madeP, List.range_succ]
theorem madeF_ok (t : List Fm) (d : Dr) (last last' : Bool) (h : last = true → last' = true) : fieldE t (madeF t d last) last' = 0 := by
  have h2 : d.a.toNat < 256 := d.a.toNat_lt
  have h3 : d.b.toNat < 256 := d.b.toNat_lt
  have hml : 0 < t.length → d.a.toNat % t.length < t.length := fun q => Nat.mod_lt _ q
  have ht : 1 ≤ (tagB d).length ∧ (tagB d).length ≤ 2 := by unfold tagB; split <;> simp
  have key : ∀ f : Fd, shapeB f = true → rangeB f last' = true → (f.kind = 5 → 0 ≤ f.n ∧ f.n < t.length ∧ plainB (fmAt t f.n).fields = true) → fieldE t f last' = 0 := by
    intro f q1 q2 q3
    unfold fieldE
    rw [q1, q2, if_neg (by simp), if_neg (by simp)]
    split
    · rfl
    · rename_i q4
      obtain ⟨a1, a2, a3⟩ := q3 (Decidable.not_not.1 q4)
      rw [if_neg (by omega), a3, if_neg (by simp)]
  unfold madeF
  split
  · refine key _ (by simp [shapeB]) ?_ (fun q => by simp at q)
    simp [rangeB]; omega
  split
  · refine key _ (by simp [shapeB]) ?_ (fun q => by simp at q)
    simp [rangeB]; omega
  split
  · refine key _ (by simp [shapeB]) ?_ (fun q => by simp at q)
    simp [rangeB]; omega
  split
  · rename_i q
    refine key _ (by simp [shapeB]) (by simp [rangeB]) (fun _ => ⟨by dsimp only; omega, by dsimp only; have := hml q.2.1; omega, ?_⟩)
    exact q.2.2
  split
  · rename_i q
    refine key _ (by simp [shapeB]) ?_ (fun q => by simp at q)
    simp [rangeB, h q.2]; omega
  · refine key _ (by simp [shapeB]) ?_ (fun q => by simp at q)
    simp [rangeB]; omega
theorem tagT_ok (t : List Fm) (last : Bool) : fieldE t tagT last = 0 := by unfold fieldE; simp [tagT, shapeB, rangeB]
theorem fieldsE_of : ∀ {t : List Fm} {l : List Fd}, (∀ k, k < l.length → fieldE t (l.getD k default) (decide (k + 1 = l.length)) = 0) → fieldsE t l = 0
  | t, [], _ => rfl
  | t, f :: l, h => by
    have h0 := h 0 (by simp)
    have ih := fieldsE_of (t := t) (l := l) fun k hk => by have := h (k + 1) (by simpa using hk); simpa using this
    have he : decide (0 + 1 = (f :: l).length) = l.isEmpty := by cases l <;> simp
    rw [List.getD_cons_zero, he] at h0
    rw [fieldsE, if_neg (by omega)]
    exact ih
theorem madeL_ok (t : List Fm) (l : List Dr) : 1 ≤ (madeL t l).length ∧ (madeL t l).length ≤ 4 ∧ fieldsE t (madeL t l) = 0 := by
  unfold madeL
  split
  · refine ⟨by simp, by simp, fieldsE_of fun k hk => ?_⟩
    obtain rfl : k = 0 := by simp at hk; omega
    exact tagT_ok t _
  · refine ⟨by rw [madeP_len]; omega, by rw [madeP_len]; omega, fieldsE_of fun k hk => ?_⟩
    rw [madeP_len] at hk ⊢
    rw [madeP_get hk]
    refine madeF_ok _ _ _ _ fun q => ?_
    simp only [Bool.or_eq_true, decide_eq_true_eq] at q ⊢
    omega
theorem getD_snoc {α : Type} {l : List α} {x d : α} {n : Nat} (h : l.length = n) : (l ++ [x]).getD n d = x := by subst h; simp
theorem madeT_len (d : List (List Dr)) : ∀ n, (madeT d n).length = n
  | 0 => rfl
  | n + 1 => by rw [madeT, List.length_append, madeT_len d n]; rfl
theorem madeT_take (d : List (List Dr)) : ∀ {n m : Nat}, n ≤ m → (madeT d m).take n = madeT d n
  | n, 0, h => by
    obtain rfl : n = 0 := by omega
    rfl
  | n, m + 1, h => by
    by_cases e : n = m + 1
    · subst e; exact List.take_of_length_le (by rw [madeT_len]; omega)
    · rw [madeT, List.take_append_of_le_length (by rw [madeT_len]; omega)]
      exact madeT_take d (by omega)
theorem madeT_get (d : List (List Dr)) {j n : Nat} (h : j < n) : (madeT d n).getD j default = ⟨nameI j, madeL (madeT d j) (d.getD j [])⟩ := by
  have h1 : (madeT d n).getD j default = ((madeT d n).take (j + 1)).getD j default := (getD_take _ _ (by omega)).symm
  rw [h1, madeT_take d (by omega), madeT, getD_snoc (madeT_len d j)]
theorem findF_none {nm : List UInt8} : ∀ {l : List Fm} {k : Int}, (∀ j, j < l.length → (l.getD j default).name ≠ nm) → findF nm k l = -1
  | [], k, _ => rfl
  | f :: l, k, h => by
    have h0 := h 0 (by simp)
    rw [List.getD_cons_zero] at h0
    rw [findF, if_neg h0]
    exact findF_none fun j hj => by have := h (j + 1) (by simpa using hj); simpa using this
theorem nameI_ne {i j : Nat} (hi : i < j) (hj : j < 4) : nameI i ≠ nameI j := by
  match j, hj, i, hi with
  | 1, _, 0, _ => decide
  | 2, _, 0, _ => decide
  | 2, _, 1, _ => decide
  | 3, _, 0, _ => decide
  | 3, _, 1, _ => decide
  | 3, _, 2, _ => decide
theorem nameI_ok {i : Nat} (hi : i < 4) : fnameB (nameI i) = true := by
  match i, hi with
  | 0, _ => exact (show fnameB (nameI 0) = true by kernel_rfl)
  | 1, _ => exact (show fnameB (nameI 1) = true by kernel_rfl)
  | 2, _ => exact (show fnameB (nameI 2) = true by kernel_rfl)
  | 3, _ => exact (show fnameB (nameI 3) = true by kernel_rfl)
theorem madeFm_ok (d : List (List Dr)) {i : Nat} (hi : i < 4) : fmE (madeT d i) ⟨nameI i, madeL (madeT d i) (d.getD i [])⟩ = 0 := by
  obtain ⟨h1, h2, h3⟩ := madeL_ok (madeT d i) (d.getD i [])
  have hf : findF (nameI i) 0 (madeT d i) = -1 := findF_none fun j hj => by
    rw [madeT_len] at hj
    rw [madeT_get d hj]
    exact nameI_ne hj hi
  unfold fmE
  rw [if_neg (by rw [nameI_ok hi]; simp), if_neg (by dsimp only; rw [hf]; omega), if_neg (by dsimp only; omega), if_neg (by dsimp only; omega)]
  exact h3
theorem tableE_of : ∀ {t l : List Fm} {k : Nat}, (∀ i, i < l.length → fmE (t.take (k + i)) (l.getD i default) = 0) → tableE t l k = 0
  | t, [], k, _ => rfl
  | t, f :: l, k, h => by
    have h0 := h 0 (by simp)
    rw [Nat.add_zero, List.getD_cons_zero] at h0
    rw [tableE, if_neg (by omega)]
    exact tableE_of fun i hi => by
      have := h (i + 1) (by simpa using hi)
      rw [List.getD_cons_succ] at this
      rw [show k + 1 + i = k + (i + 1) by omega]; exact this
theorem made_valid (d : List (List Dr)) : validE (madeE d) = 0 ∧ (madeE d).length ≤ 4 := by
  have hl := madeT_len d (min d.length 4)
  unfold madeE validE
  refine ⟨?_, by omega⟩
  rw [if_neg (by omega)]
  refine tableE_of fun i hi => ?_
  rw [hl] at hi
  rw [Nat.zero_add, madeT_take d (by omega), madeT_get d hi]
  exact madeFm_ok d (by omega)
theorem digits_spec (n : Nat) (h : n < 10) : Ctr sys 43 [xi (n : Int)] [] (xs [UInt8.ofNat (48 + n)]) none [] := by
  refine spec_intro Try.func43 rfl rfl rfl rfl rfl rfl ?_
  refine awp_seq (awp_region ?_)
  refine al_pure rfl rfl rfl (pure_assign rfl gU) ?_
  refine al_nil ?_
  refine awp_seq ?_
  refine awp_seq (awp_region ?_)
  refine al_pure rfl rfl rfl (pure_move rfl gU) ?_
  refine al_pure rfl rfl rfl (pure_cmp rfl rfl gU gU rfl) ?_
  refine al_nil ?_
  refine awp_cond rfl (fun hc => ?_) (fun hc => ?_)
  · refine awp_seq (awp_region ?_)
    refine al_pure rfl rfl rfl (pure_move rfl gU) ?_
    refine al_pure rfl rfl rfl (pure_move rfl gU) ?_
    refine al_pure rfl rfl rfl (pure_arith rfl rfl gU gU rfl (IntWalk.i64_in _ (by omega))) ?_
    refine al_pure rfl rfl rfl (pure_sliceS (l := n) (h' := (n + 1)) rfl gU Try.underlying9 (fun _ => ⟨_, _, _, rfl, gU, by first | omega | (simp at hh; omega) | (simp; omega)⟩) (fun _ => ⟨_, _, _, rfl, gU, by first | omega | (simp at hh; omega) | (simp; omega)⟩) (fun hh => by first | omega | (simp at hh; omega) | (simp; omega)) (fun hh => by first | omega | (simp at hh; omega) | (simp; omega))) ?_
    refine al_pure rfl rfl rfl (pure_assign rfl gU) ?_
    refine al_nil ?_
    refine awp_ret ?_
    repeat (first | refine tR ?_ | refine bR ?_)
    refine ret_ok rfl ?_ trivial
    match n, h with
    | 0, _ => rfl
    | 1, _ => rfl
    | 2, _ => rfl
    | 3, _ => rfl
    | 4, _ => rfl
    | 5, _ => rfl
    | 6, _ => rfl
    | 7, _ => rfl
    | 8, _ => rfl
    | 9, _ => rfl
  · try simp only [nn, Fd.rows_len, Fm.rows_len, Dr.rows_len, ddR_len] at hc
    exfalso; omega
abbrev xdr (d : Dr) : X := .v (.agg d.cells)
theorem xf_eq {a b : Fd} (h : a = b) : xf a = xf b := by rw [h]
theorem made_spec (t : List Fm) (d : Dr) (last : Bool) (ht : t.length ≤ 100) : Ctr sys 44 [xtab t, xdr d, xb last] [] (xf (madeF t d last)) none [] := by
  have hrl := Fm.rows_len t
  have h1 : d.kind.toNat < 256 := d.kind.toNat_lt
  have h2 : d.a.toNat < 256 := d.a.toNat_lt
  have h3 : d.b.toNat < 256 := d.b.toNat_lt
  have hm : (d.a.toNat : Int) % ((Fm.rows t).length : Int) = ((d.a.toNat % t.length : Nat) : Int) := by rw [hrl, Int.natCast_emod]
  have hk : ∀ q : Int, q = (d.kind.toNat : Int) % 6 → q = ((d.kind.toNat % 6 : Nat) : Int) := fun q e => by omega
  have hml : t.length = 0 ∨ (0 < t.length ∧ d.a.toNat % t.length < t.length) := by
    by_cases q : t.length = 0
    · exact .inl q
    · exact .inr ⟨by omega, Nat.mod_lt _ (by omega)⟩
  refine spec_intro Try.func44 rfl rfl rfl rfl rfl rfl ?_
  refine awp_seq (awp_region ?_)
  refine al_do rfl (does_box rfl rfl rfl rfl) ?_
  refine al_do rfl (does_alloc rfl rfl rfl) ?_
  refine al_nil ?_
  refine awp_seq ?_
  refine awp_drawn' (by kernel_rfl) ?_
  refine dr_pure rfl rfl rfl rfl (pure_fieldPtr rfl gU rfl rfl) ?_
  refine dr_load rfl rfl rfl rfl rfl rfl rfl gU rfl rfl rfl rfl ?_
  refine dr_pure rfl rfl rfl rfl (pure_convInt rfl gU ⟨_, Try.underlying5⟩ (Try.underlying3) (IntWalk.i64_in _ (by omega))) ?_
  refine dr_pure rfl rfl rfl rfl (pure_fieldPtr rfl gU rfl rfl) ?_
  refine dr_load rfl rfl rfl rfl rfl rfl rfl gU rfl rfl rfl rfl ?_
  refine dr_pure rfl rfl rfl rfl (pure_convInt rfl gU ⟨_, Try.underlying5⟩ (Try.underlying3) (IntWalk.i64_in _ (by omega))) ?_
  refine dr_pure rfl rfl rfl rfl (pure_assign rfl gU) ?_
  refine dr_pure rfl rfl rfl rfl (pure_assign rfl gU) ?_
  refine dr_nil (by kernel_rfl) ?_
  refine awp_sub (s := { t := [(0, _, _), (2, _, _), (4, _, _), (6, _, _), (7, _, _), (8, _, _)], bx := [((.l 4), _), ((.l 6), _)], ow := [] }) (sub_mk (⟨sx rfl, ⟨sx rfl, ⟨sx rfl, ⟨sx rfl, ⟨sx rfl, ⟨sx rfl, trivial⟩⟩⟩⟩⟩⟩) (⟨sx rfl, ⟨sx rfl, trivial⟩⟩) trivial) ?_
  refine awp_seq ?_
  refine awp_seq (awp_region ?_)
  refine al_pure rfl rfl rfl (pure_fieldPtr rfl gU rfl rfl) ?_
  refine al_pure rfl rfl rfl (pure_loadBox rfl gU rfl rfl rfl rfl) ?_
  refine al_pure rfl rfl rfl (pure_remG rfl rfl gU gU (fun hh => by first | omega | (simp at hh; omega)) (fun hh => Int.tmod_eq_emod_of_nonneg (by first | omega | (simp at hh; omega)))) ?_
  refine al_nil ?_
  refine awp_block ?_
  refine awp_seq (awp_region ?_)
  refine al_pure rfl rfl rfl (pure_cmp rfl rfl gU gU rfl) ?_
  refine al_pure rfl rfl rfl (pure_assign rfl gU) ?_
  refine al_nil ?_
  refine awp_sub (s := { t := [(0, _, _), (2, _, _), (6, _, _), (7, _, _), (8, _, _), (18, _, _), (19, _, _)], bx := [((.l 6), _)], ow := [] }) (sub_mk (⟨sx rfl, ⟨sx rfl, ⟨sx rfl, ⟨sx rfl, ⟨sx rfl, ⟨sx rfl, ⟨sx rfl, trivial⟩⟩⟩⟩⟩⟩⟩) (⟨sx rfl, trivial⟩) trivial) ?_
  refine awp_cond rfl (fun hca => ?_) (fun hca => ?_)
  · try simp only [nn, Fd.rows_len, Fm.rows_len, Dr.rows_len, ddR_len] at hca
    have hF : madeF t d last = ⟨2, [], 1 + (d.a.toNat % 3 : Nat), 0, 0⟩ := by unfold madeF; rw [if_pos (by omega)]
    refine awp_seq (awp_region ?_)
    refine al_pure rfl rfl rfl (pure_move rfl gU) ?_
    refine al_pure rfl rfl rfl (pure_remG rfl rfl gU gU (fun hh => by first | omega | (simp at hh; omega)) (fun hh => Int.tmod_eq_emod_of_nonneg (by first | omega | (simp at hh; omega)))) ?_
    refine al_pure rfl rfl rfl (pure_arith rfl rfl gU gU rfl (IntWalk.i64_in _ (by omega))) ?_
    refine al_pure rfl rfl rfl (pure_build rfl Try.underlying62 rfl gU) ?_
    refine al_do rfl (does_store rfl rfl rfl rfl rfl rfl rfl) ?_
    refine al_nil ?_
    refine awp_ret ?_
    repeat (first | refine tR ?_ | refine bR ?_)
    refine ret_ok rfl ?_ trivial
    (rw [hF]; rfl)
  · try simp only [nn, Fd.rows_len, Fm.rows_len, Dr.rows_len, ddR_len] at hca
    refine awp_seq (awp_region ?_)
    refine al_pure rfl rfl rfl (pure_cmp rfl rfl gU gU rfl) ?_
    refine al_pure rfl rfl rfl (pure_assign rfl gU) ?_
    refine al_nil ?_
    refine awp_cond rfl (fun hcb => ?_) (fun hcb => ?_)
    · try simp only [nn, Fd.rows_len, Fm.rows_len, Dr.rows_len, ddR_len] at hcb
      have hF : madeF t d last = ⟨3, [], (d.a.toNat % 4 : Nat), 0, 0⟩ := by unfold madeF; rw [if_neg (by omega), if_pos (by omega)]
      refine awp_seq (awp_region ?_)
      refine al_pure rfl rfl rfl (pure_move rfl gU) ?_
      refine al_pure rfl rfl rfl (pure_remG rfl rfl gU gU (fun hh => by first | omega | (simp at hh; omega)) (fun hh => Int.tmod_eq_emod_of_nonneg (by first | omega | (simp at hh; omega)))) ?_
      refine al_pure rfl rfl rfl (pure_build rfl Try.underlying62 rfl gU) ?_
      refine al_do rfl (does_store rfl rfl rfl rfl rfl rfl rfl) ?_
      refine al_nil ?_
      refine awp_ret ?_
      repeat (first | refine tR ?_ | refine bR ?_)
      refine ret_ok rfl ?_ trivial
      (rw [hF]; rfl)
    · try simp only [nn, Fd.rows_len, Fm.rows_len, Dr.rows_len, ddR_len] at hcb
      refine awp_seq (awp_region ?_)
      refine al_pure rfl rfl rfl (pure_cmp rfl rfl gU gU rfl) ?_
      refine al_pure rfl rfl rfl (pure_assign rfl gU) ?_
      refine al_nil ?_
      refine awp_cond rfl (fun hcc => ?_) (fun hcc => ?_)
      · try simp only [nn, Fd.rows_len, Fm.rows_len, Dr.rows_len, ddR_len] at hcc
        have hF : madeF t d last = ⟨4, [], 0, (d.a.toNat % 8 : Nat), (d.a.toNat % 8 : Nat) + (d.b.toNat % 8 : Nat)⟩ := by unfold madeF; rw [if_neg (by omega), if_neg (by omega), if_pos (by omega)]
        refine awp_seq (awp_region ?_)
        refine al_pure rfl rfl rfl (pure_move rfl gU) ?_
        refine al_pure rfl rfl rfl (pure_remG rfl rfl gU gU (fun hh => by first | omega | (simp at hh; omega)) (fun hh => Int.tmod_eq_emod_of_nonneg (by first | omega | (simp at hh; omega)))) ?_
        refine al_pure rfl rfl rfl (pure_move rfl gU) ?_
        refine al_pure rfl rfl rfl (pure_remG rfl rfl gU gU (fun hh => by first | omega | (simp at hh; omega)) (fun hh => Int.tmod_eq_emod_of_nonneg (by first | omega | (simp at hh; omega)))) ?_
        refine al_pure rfl rfl rfl (pure_move rfl gU) ?_
        refine al_pure rfl rfl rfl (pure_remG rfl rfl gU gU (fun hh => by first | omega | (simp at hh; omega)) (fun hh => Int.tmod_eq_emod_of_nonneg (by first | omega | (simp at hh; omega)))) ?_
        refine al_pure rfl rfl rfl (pure_arith rfl rfl gU gU rfl (IntWalk.i64_in _ (by omega))) ?_
        refine al_pure rfl rfl rfl (pure_build rfl Try.underlying62 rfl gU) ?_
        refine al_sub (s := { t := [(6, _, _), (39, _, _)], bx := [((.l 6), _)], ow := [] }) (sub_mk (⟨sx rfl, ⟨sx rfl, trivial⟩⟩) (⟨sx rfl, trivial⟩) trivial) ?_
        refine al_do rfl (does_store rfl rfl rfl rfl rfl rfl rfl) ?_
        refine al_nil ?_
        refine awp_ret ?_
        repeat (first | refine tR ?_ | refine bR ?_)
        refine ret_ok rfl ?_ trivial
        (rw [hF]; rfl)
      · try simp only [nn, Fd.rows_len, Fm.rows_len, Dr.rows_len, ddR_len] at hcc
        refine awp_seq (awp_region ?_)
        refine al_pure rfl rfl rfl (pure_cmp rfl rfl gU gU rfl) ?_
        refine al_pure rfl rfl rfl (pure_assign rfl gU) ?_
        refine al_nil ?_
        refine awp_sub (s := { t := [(0, _, _), (2, _, _), (6, _, _), (7, _, _), (8, _, _), (18, _, _), (40, _, _)], bx := [((.l 6), _)], ow := [] }) (sub_mk (⟨sx rfl, ⟨sx rfl, ⟨sx rfl, ⟨sx rfl, ⟨sx rfl, ⟨sx rfl, ⟨sx rfl, trivial⟩⟩⟩⟩⟩⟩⟩) (⟨sx rfl, trivial⟩) trivial) ?_
        refine awp_cond rfl (fun hcd => ?_) (fun hcd => ?_)
        · try simp only [nn, Fd.rows_len, Fm.rows_len, Dr.rows_len, ddR_len] at hcd
          have hk4 : d.kind.toNat % 6 = 4 := by omega
          refine awp_seq (awp_region ?_)
          refine al_pure rfl rfl rfl (pure_move rfl gU) ?_
          refine al_lenSl rfl rfl rfl rfl rfl gU rfl rfl ?_ (fun hh => by simp at hh); intro hlen
          refine al_pure rfl rfl rfl (pure_cmp rfl rfl gU gU rfl) ?_
          refine al_pure rfl rfl rfl (pure_move rfl gU) ?_
          refine al_pure rfl rfl rfl (pure_move rfl gU) ?_
          refine al_pure rfl rfl rfl (pure_move rfl gU) ?_
          refine al_pure rfl rfl rfl (pure_move rfl gU) ?_
          refine al_pure rfl rfl rfl (pure_lenSl rfl (fun hh => hh) rfl rfl) ?_
          refine al_pure rfl rfl rfl (pure_remG rfl rfl (fun hh => hh) (fun hh => hh) (fun hh => by first | omega | (simp at hh; omega)) (fun hh => Int.tmod_eq_emod_of_nonneg (by first | omega | (simp at hh; omega)))) ?_
          refine al_pure rfl rfl rfl (pure_indexAddr (j := d.a.toNat % t.length) rfl rfl (fun hh => hh) (fun hh => hh) rfl rfl (by first | omega | (simp at hh; omega)) (fun hh => Fm.rows_at (by first | omega | (simp at hh; omega)))) ?_
          refine al_pure rfl rfl rfl (pure_loadRoRow rfl (fun hh => hh) rfl rfl rfl rfl) ?_
          refine al_call rfl rfl rfl rfl rfl rfl gU (fun hh => gA ((fun hh => hh) hh) (rfl)) (plain_spec _) rfl ?_
          refine al_sub (s := { t := [(0, _, _), (6, _, _), (7, _, _), (8, _, _), (45, _, _), (53, _, _)], bx := [((.l 6), _)], ow := [] }) (sub_mk (⟨sx rfl, ⟨sx rfl, ⟨sx rfl, ⟨sx rfl, ⟨sx rfl, ⟨sx rfl, trivial⟩⟩⟩⟩⟩⟩) (⟨sx rfl, trivial⟩) trivial) ?_
          refine al_pure rfl rfl rfl (pure_and rfl rfl gU (fun _ hi => gP rfl hi)) ?_
          refine al_nil ?_
          refine awp_cond rfl (fun hce => ?_) (fun hce => ?_)
          · try simp only [nn, Fd.rows_len, Fm.rows_len, Dr.rows_len, ddR_len] at hce
            have hF : madeF t d last = ⟨5, [], (d.a.toNat % t.length : Nat), 0, 0⟩ := by unfold madeF; rw [if_neg (by omega), if_neg (by omega), if_neg (by omega), if_pos ⟨hk4, by omega, hce.2⟩]
            refine awp_seq (awp_region ?_)
            refine al_pure rfl rfl rfl (pure_move rfl gU) ?_
            refine al_pure rfl rfl rfl (pure_move rfl gU) ?_
            refine al_lenSl rfl rfl rfl rfl rfl gU rfl rfl ?_ (fun hh => by simp at hh); intro hlen
            refine al_pure rfl rfl rfl (pure_remG rfl rfl gU gU (fun hh => by first | omega | (simp at hh; omega)) (fun hh => Int.tmod_eq_emod_of_nonneg (by first | omega | (simp at hh; omega)))) ?_
            refine al_pure rfl rfl rfl (pure_build rfl Try.underlying62 rfl gU) ?_
            refine al_do rfl (does_store rfl rfl rfl rfl rfl rfl rfl) ?_
            refine al_nil ?_
            refine awp_ret ?_
            repeat (first | refine tR ?_ | refine bR ?_)
            refine ret_ok rfl ?_ trivial
            (rw [hF, ← hm]; rfl)
          · try simp only [nn, Fd.rows_len, Fm.rows_len, Dr.rows_len, ddR_len] at hce
            have hF : madeF t d last = ⟨1, tagB d, 0, 0, 0⟩ := by
              unfold madeF
              rw [if_neg (by omega), if_neg (by omega), if_neg (by omega), if_neg (by rintro ⟨_, q1, q2⟩; rcases hce with h | h; omega; rw [q2] at h; simp at h), if_neg (by omega)]
            rw [hF]
            refine awp_skip ?_
            refine awp_seq (awp_region ?_)
            refine al_pure rfl rfl rfl (pure_move rfl gU) ?_
            refine al_pure rfl rfl rfl (pure_remG rfl rfl gU gU (fun hh => by first | omega | (simp at hh; omega)) (fun hh => Int.tmod_eq_emod_of_nonneg (by first | omega | (simp at hh; omega)))) ?_
            refine al_pure rfl rfl rfl (pure_convInt rfl gU ⟨_, Try.underlying3⟩ (Try.underlying5) (IntWalk.u8_in _ (by omega))) ?_
            refine al_buildSlice (xs := [_]) rfl rfl rfl rfl rfl rfl rfl rfl rfl gU rfl ?_
            refine al_pure rfl rfl rfl (pure_bytesStr (l := [UInt8.ofNat (d.a.toNat % 4)]) rfl (by exact byte1 (by omega) (by omega)) gU Try.underlying48 Try.underlying5 Try.underlying9) ?_
            refine al_pure rfl rfl rfl (pure_assign rfl gU) ?_
            refine al_nil ?_
            refine awp_sub (s := { t := [(6, _, _), (8, _, _), (9, _, _)], bx := [((.l 6), _)], ow := [] }) (sub_mk (⟨sx rfl, ⟨sx rfl, ⟨sx rfl, trivial⟩⟩⟩) (⟨sx rfl, trivial⟩) trivial) ?_
            refine awp_seq ?_
            refine awp_seq (awp_region ?_)
            refine al_pure rfl rfl rfl (pure_move rfl gU) ?_
            refine al_pure rfl rfl rfl (pure_remG rfl rfl gU gU (fun hh => by first | omega | (simp at hh; omega)) (fun hh => Int.tmod_eq_emod_of_nonneg (by first | omega | (simp at hh; omega)))) ?_
            refine al_pure rfl rfl rfl (pure_cmp rfl rfl gU gU rfl) ?_
            refine al_nil ?_
            refine awp_cond rfl (fun hcz => ?_) (fun hcz => ?_)
            · try simp only [nn, Fd.rows_len, Fm.rows_len, Dr.rows_len, ddR_len] at hcz
              refine awp_region ?_
              refine al_pure rfl rfl rfl (pure_move rfl gU) ?_
              refine al_pure rfl rfl rfl (pure_move rfl gU) ?_
              refine al_pure rfl rfl rfl (pure_remG rfl rfl gU gU (fun hh => by first | omega | (simp at hh; omega)) (fun hh => Int.tmod_eq_emod_of_nonneg (by first | omega | (simp at hh; omega)))) ?_
              refine al_pure rfl rfl rfl (pure_convInt rfl gU ⟨_, Try.underlying3⟩ (Try.underlying5) (IntWalk.u8_in _ (by omega))) ?_
              refine al_buildSlice (xs := [_]) rfl rfl rfl rfl rfl rfl rfl rfl rfl gU rfl ?_
              refine al_pure rfl rfl rfl (pure_bytesStr (l := [UInt8.ofNat (d.b.toNat % 4)]) rfl (by exact byte1 (by omega) (by omega)) gU Try.underlying48 Try.underlying5 Try.underlying9) ?_
              refine al_pure rfl rfl rfl (pure_concat rfl rfl gU gU (by first | (simp; done) | (simp; omega))) ?_
              refine al_pure rfl rfl rfl (pure_assign rfl gU) ?_
              refine al_nil ?_
              refine awp_sub (s := { t := [(6, _, _), (9, _, _)], bx := [((.l 6), _)], ow := [] }) (sub_mk (⟨sx rfl, ⟨sx rfl, trivial⟩⟩) (⟨sx rfl, trivial⟩) trivial) ?_
              refine awp_seq (awp_region ?_)
              refine al_pure rfl rfl rfl (pure_move rfl gU) ?_
              refine al_pure rfl rfl rfl (pure_build rfl Try.underlying62 rfl gU) ?_
              refine al_do rfl (does_store rfl rfl rfl rfl rfl rfl rfl) ?_
              refine al_nil ?_
              refine awp_ret ?_
              repeat (first | refine tR ?_ | refine bR ?_)
              refine ret_ok rfl ?_ trivial
              (exact xf_eq (congrArg (fun b => Fd.mk 1 b 0 0 0) (by rw [tagB, if_pos (by omega)]; try rfl)))
            · try simp only [nn, Fd.rows_len, Fm.rows_len, Dr.rows_len, ddR_len] at hcz
              refine awp_skip ?_
              refine awp_seq (awp_region ?_)
              refine al_pure rfl rfl rfl (pure_move rfl gU) ?_
              refine al_pure rfl rfl rfl (pure_build rfl Try.underlying62 rfl gU) ?_
              refine al_do rfl (does_store rfl rfl rfl rfl rfl rfl rfl) ?_
              refine al_nil ?_
              refine awp_ret ?_
              repeat (first | refine tR ?_ | refine bR ?_)
              refine ret_ok rfl ?_ trivial
              (exact xf_eq (congrArg (fun b => Fd.mk 1 b 0 0 0) (by rw [tagB, if_neg (by omega)]; try rfl)))
        · try simp only [nn, Fd.rows_len, Fm.rows_len, Dr.rows_len, ddR_len] at hcd
          refine awp_seq (awp_region ?_)
          refine al_pure rfl rfl rfl (pure_cmp rfl rfl gU gU rfl) ?_
          refine al_pure rfl rfl rfl (pure_assign rfl gU) ?_
          refine al_nil ?_
          refine awp_cond rfl (fun hcf => ?_) (fun hcf => ?_)
          · try simp only [nn, Fd.rows_len, Fm.rows_len, Dr.rows_len, ddR_len] at hcf
            refine awp_seq (awp_region ?_)
            refine al_pure rfl rfl rfl (pure_move rfl gU) ?_
            refine al_nil ?_
            refine awp_cond rfl (fun hcg => ?_) (fun hcg => ?_)
            · try simp only [nn, Fd.rows_len, Fm.rows_len, Dr.rows_len, ddR_len] at hcg
              have hF : madeF t d last = ⟨6, [], 0, (d.a.toNat % 3 : Nat), (d.a.toNat % 3 : Nat) + (d.b.toNat % 4 : Nat)⟩ := by unfold madeF; rw [if_neg (by omega), if_neg (by omega), if_neg (by omega), if_neg (by omega), if_pos ⟨by omega, hcg⟩]
              refine awp_seq (awp_region ?_)
              refine al_pure rfl rfl rfl (pure_move rfl gU) ?_
              refine al_pure rfl rfl rfl (pure_remG rfl rfl gU gU (fun hh => by first | omega | (simp at hh; omega)) (fun hh => Int.tmod_eq_emod_of_nonneg (by first | omega | (simp at hh; omega)))) ?_
              refine al_pure rfl rfl rfl (pure_move rfl gU) ?_
              refine al_pure rfl rfl rfl (pure_remG rfl rfl gU gU (fun hh => by first | omega | (simp at hh; omega)) (fun hh => Int.tmod_eq_emod_of_nonneg (by first | omega | (simp at hh; omega)))) ?_
              refine al_pure rfl rfl rfl (pure_move rfl gU) ?_
              refine al_pure rfl rfl rfl (pure_remG rfl rfl gU gU (fun hh => by first | omega | (simp at hh; omega)) (fun hh => Int.tmod_eq_emod_of_nonneg (by first | omega | (simp at hh; omega)))) ?_
              refine al_pure rfl rfl rfl (pure_arith rfl rfl gU gU rfl (IntWalk.i64_in _ (by omega))) ?_
              refine al_pure rfl rfl rfl (pure_build rfl Try.underlying62 rfl gU) ?_
              refine al_do rfl (does_store rfl rfl rfl rfl rfl rfl rfl) ?_
              refine al_nil ?_
              refine awp_ret ?_
              repeat (first | refine tR ?_ | refine bR ?_)
              refine ret_ok rfl ?_ trivial
              (rw [hF]; rfl)
            · try simp only [nn, Fd.rows_len, Fm.rows_len, Dr.rows_len, ddR_len] at hcg
              have hF : madeF t d last = ⟨1, tagB d, 0, 0, 0⟩ := by
                unfold madeF
                rw [if_neg (by omega), if_neg (by omega), if_neg (by omega), if_neg (by omega), if_neg (by rintro ⟨_, q⟩; rw [q] at hcg; simp at hcg)]
              rw [hF]
              refine awp_skip ?_
              refine awp_seq (awp_region ?_)
              refine al_pure rfl rfl rfl (pure_move rfl gU) ?_
              refine al_pure rfl rfl rfl (pure_remG rfl rfl gU gU (fun hh => by first | omega | (simp at hh; omega)) (fun hh => Int.tmod_eq_emod_of_nonneg (by first | omega | (simp at hh; omega)))) ?_
              refine al_pure rfl rfl rfl (pure_convInt rfl gU ⟨_, Try.underlying3⟩ (Try.underlying5) (IntWalk.u8_in _ (by omega))) ?_
              refine al_buildSlice (xs := [_]) rfl rfl rfl rfl rfl rfl rfl rfl rfl gU rfl ?_
              refine al_pure rfl rfl rfl (pure_bytesStr (l := [UInt8.ofNat (d.a.toNat % 4)]) rfl (by exact byte1 (by omega) (by omega)) gU Try.underlying48 Try.underlying5 Try.underlying9) ?_
              refine al_pure rfl rfl rfl (pure_assign rfl gU) ?_
              refine al_nil ?_
              refine awp_sub (s := { t := [(6, _, _), (8, _, _), (9, _, _)], bx := [((.l 6), _)], ow := [] }) (sub_mk (⟨sx rfl, ⟨sx rfl, ⟨sx rfl, trivial⟩⟩⟩) (⟨sx rfl, trivial⟩) trivial) ?_
              refine awp_seq ?_
              refine awp_seq (awp_region ?_)
              refine al_pure rfl rfl rfl (pure_move rfl gU) ?_
              refine al_pure rfl rfl rfl (pure_remG rfl rfl gU gU (fun hh => by first | omega | (simp at hh; omega)) (fun hh => Int.tmod_eq_emod_of_nonneg (by first | omega | (simp at hh; omega)))) ?_
              refine al_pure rfl rfl rfl (pure_cmp rfl rfl gU gU rfl) ?_
              refine al_nil ?_
              refine awp_cond rfl (fun hcz => ?_) (fun hcz => ?_)
              · try simp only [nn, Fd.rows_len, Fm.rows_len, Dr.rows_len, ddR_len] at hcz
                refine awp_region ?_
                refine al_pure rfl rfl rfl (pure_move rfl gU) ?_
                refine al_pure rfl rfl rfl (pure_move rfl gU) ?_
                refine al_pure rfl rfl rfl (pure_remG rfl rfl gU gU (fun hh => by first | omega | (simp at hh; omega)) (fun hh => Int.tmod_eq_emod_of_nonneg (by first | omega | (simp at hh; omega)))) ?_
                refine al_pure rfl rfl rfl (pure_convInt rfl gU ⟨_, Try.underlying3⟩ (Try.underlying5) (IntWalk.u8_in _ (by omega))) ?_
                refine al_buildSlice (xs := [_]) rfl rfl rfl rfl rfl rfl rfl rfl rfl gU rfl ?_
                refine al_pure rfl rfl rfl (pure_bytesStr (l := [UInt8.ofNat (d.b.toNat % 4)]) rfl (by exact byte1 (by omega) (by omega)) gU Try.underlying48 Try.underlying5 Try.underlying9) ?_
                refine al_pure rfl rfl rfl (pure_concat rfl rfl gU gU (by first | (simp; done) | (simp; omega))) ?_
                refine al_pure rfl rfl rfl (pure_assign rfl gU) ?_
                refine al_nil ?_
                refine awp_sub (s := { t := [(6, _, _), (9, _, _)], bx := [((.l 6), _)], ow := [] }) (sub_mk (⟨sx rfl, ⟨sx rfl, trivial⟩⟩) (⟨sx rfl, trivial⟩) trivial) ?_
                refine awp_seq (awp_region ?_)
                refine al_pure rfl rfl rfl (pure_move rfl gU) ?_
                refine al_pure rfl rfl rfl (pure_build rfl Try.underlying62 rfl gU) ?_
                refine al_do rfl (does_store rfl rfl rfl rfl rfl rfl rfl) ?_
                refine al_nil ?_
                refine awp_ret ?_
                repeat (first | refine tR ?_ | refine bR ?_)
                refine ret_ok rfl ?_ trivial
                (exact xf_eq (congrArg (fun b => Fd.mk 1 b 0 0 0) (by rw [tagB, if_pos (by omega)]; try rfl)))
              · try simp only [nn, Fd.rows_len, Fm.rows_len, Dr.rows_len, ddR_len] at hcz
                refine awp_skip ?_
                refine awp_seq (awp_region ?_)
                refine al_pure rfl rfl rfl (pure_move rfl gU) ?_
                refine al_pure rfl rfl rfl (pure_build rfl Try.underlying62 rfl gU) ?_
                refine al_do rfl (does_store rfl rfl rfl rfl rfl rfl rfl) ?_
                refine al_nil ?_
                refine awp_ret ?_
                repeat (first | refine tR ?_ | refine bR ?_)
                refine ret_ok rfl ?_ trivial
                (exact xf_eq (congrArg (fun b => Fd.mk 1 b 0 0 0) (by rw [tagB, if_neg (by omega)]; try rfl)))
          · try simp only [nn, Fd.rows_len, Fm.rows_len, Dr.rows_len, ddR_len] at hcf
            have hF : madeF t d last = ⟨1, tagB d, 0, 0, 0⟩ := by
              unfold madeF
              rw [if_neg (by omega), if_neg (by omega), if_neg (by omega), if_neg (by omega), if_neg (by omega)]
            rw [hF]
            refine awp_skip ?_
            refine awp_seq (awp_region ?_)
            refine al_pure rfl rfl rfl (pure_move rfl gU) ?_
            refine al_pure rfl rfl rfl (pure_remG rfl rfl gU gU (fun hh => by first | omega | (simp at hh; omega)) (fun hh => Int.tmod_eq_emod_of_nonneg (by first | omega | (simp at hh; omega)))) ?_
            refine al_pure rfl rfl rfl (pure_convInt rfl gU ⟨_, Try.underlying3⟩ (Try.underlying5) (IntWalk.u8_in _ (by omega))) ?_
            refine al_buildSlice (xs := [_]) rfl rfl rfl rfl rfl rfl rfl rfl rfl gU rfl ?_
            refine al_pure rfl rfl rfl (pure_bytesStr (l := [UInt8.ofNat (d.a.toNat % 4)]) rfl (by exact byte1 (by omega) (by omega)) gU Try.underlying48 Try.underlying5 Try.underlying9) ?_
            refine al_pure rfl rfl rfl (pure_assign rfl gU) ?_
            refine al_nil ?_
            refine awp_sub (s := { t := [(6, _, _), (8, _, _), (9, _, _)], bx := [((.l 6), _)], ow := [] }) (sub_mk (⟨sx rfl, ⟨sx rfl, ⟨sx rfl, trivial⟩⟩⟩) (⟨sx rfl, trivial⟩) trivial) ?_
            refine awp_seq ?_
            refine awp_seq (awp_region ?_)
            refine al_pure rfl rfl rfl (pure_move rfl gU) ?_
            refine al_pure rfl rfl rfl (pure_remG rfl rfl gU gU (fun hh => by first | omega | (simp at hh; omega)) (fun hh => Int.tmod_eq_emod_of_nonneg (by first | omega | (simp at hh; omega)))) ?_
            refine al_pure rfl rfl rfl (pure_cmp rfl rfl gU gU rfl) ?_
            refine al_nil ?_
            refine awp_cond rfl (fun hcz => ?_) (fun hcz => ?_)
            · try simp only [nn, Fd.rows_len, Fm.rows_len, Dr.rows_len, ddR_len] at hcz
              refine awp_region ?_
              refine al_pure rfl rfl rfl (pure_move rfl gU) ?_
              refine al_pure rfl rfl rfl (pure_move rfl gU) ?_
              refine al_pure rfl rfl rfl (pure_remG rfl rfl gU gU (fun hh => by first | omega | (simp at hh; omega)) (fun hh => Int.tmod_eq_emod_of_nonneg (by first | omega | (simp at hh; omega)))) ?_
              refine al_pure rfl rfl rfl (pure_convInt rfl gU ⟨_, Try.underlying3⟩ (Try.underlying5) (IntWalk.u8_in _ (by omega))) ?_
              refine al_buildSlice (xs := [_]) rfl rfl rfl rfl rfl rfl rfl rfl rfl gU rfl ?_
              refine al_pure rfl rfl rfl (pure_bytesStr (l := [UInt8.ofNat (d.b.toNat % 4)]) rfl (by exact byte1 (by omega) (by omega)) gU Try.underlying48 Try.underlying5 Try.underlying9) ?_
              refine al_pure rfl rfl rfl (pure_concat rfl rfl gU gU (by first | (simp; done) | (simp; omega))) ?_
              refine al_pure rfl rfl rfl (pure_assign rfl gU) ?_
              refine al_nil ?_
              refine awp_sub (s := { t := [(6, _, _), (9, _, _)], bx := [((.l 6), _)], ow := [] }) (sub_mk (⟨sx rfl, ⟨sx rfl, trivial⟩⟩) (⟨sx rfl, trivial⟩) trivial) ?_
              refine awp_seq (awp_region ?_)
              refine al_pure rfl rfl rfl (pure_move rfl gU) ?_
              refine al_pure rfl rfl rfl (pure_build rfl Try.underlying62 rfl gU) ?_
              refine al_do rfl (does_store rfl rfl rfl rfl rfl rfl rfl) ?_
              refine al_nil ?_
              refine awp_ret ?_
              repeat (first | refine tR ?_ | refine bR ?_)
              refine ret_ok rfl ?_ trivial
              (exact xf_eq (congrArg (fun b => Fd.mk 1 b 0 0 0) (by rw [tagB, if_pos (by omega)]; try rfl)))
            · try simp only [nn, Fd.rows_len, Fm.rows_len, Dr.rows_len, ddR_len] at hcz
              refine awp_skip ?_
              refine awp_seq (awp_region ?_)
              refine al_pure rfl rfl rfl (pure_move rfl gU) ?_
              refine al_pure rfl rfl rfl (pure_build rfl Try.underlying62 rfl gU) ?_
              refine al_do rfl (does_store rfl rfl rfl rfl rfl rfl rfl) ?_
              refine al_nil ?_
              refine awp_ret ?_
              repeat (first | refine tR ?_ | refine bR ?_)
              refine ret_ok rfl ?_ trivial
              (exact xf_eq (congrArg (fun b => Fd.mk 1 b 0 0 0) (by rw [tagB, if_neg (by omega)]; try rfl)))
end Go.Proofs.Ytgjclggjkhapfaa
/- Ownership in a restricted state. -/
set_option linter.unusedVariables false
set_option linter.unusedSimpArgs false
namespace Go.Abs
theorem rko {ops : Array Oper} {o : Oper} {rb : List Nm} {st : St} {p : Pl} {sz : Nat} (h : st.own p = some sz) : (rs (foot ops o rb [p]) st).own p = some sz := by
  show getO (pickO st [p]) p = some sz
  simp only [pickO, h]
  rw [getO_cons, if_pos rfl]
theorem ak2 {e : Eff} {s : St} {p : Pl} {sz : Nat} (hk : e.keeps p = true) (h : s.own p = some sz) : (ap e s).own p = some sz := by
  unfold Eff.keeps at hk
  rw [Bool.and_eq_true] at hk
  obtain ⟨h1, h2⟩ := hk
  rw [ap_own, Eff.go]
  have hd : ¬ p ∈ e.drop := by
    intro hp
    have : e.drop.any (Pl.beq p) = true := List.any_eq_true.2 ⟨p, hp, Pl.beq_self p⟩
    rw [this] at h1; simp at h1
  cases hg : e.gain with
  | none => dsimp only; rw [if_neg hd]; exact h
  | some x =>
    obtain ⟨q, y⟩ := x
    rw [hg] at h2
    dsimp only at h2 ⊢
    have hq : ¬ q = p := by
      intro z; subst z; rw [Pl.beq_self] at h2; simp at h2
    rw [if_neg hq, if_neg hd]; exact h
end Go.Abs
/- Contracts: Made. -/
set_option linter.unusedVariables false
set_option linter.unusedSimpArgs false
namespace Go.Proofs.Ytgjclggjkhapfaa
open Go Go.Abs
theorem fm_row {nm nm' : List UInt8} {rs : List (List C)} {fs : List Fd} (h1 : nm = nm') (h2 : rs = Fd.rows fs) : [C.s nm, C.sl 5 rs] = (⟨nm', fs⟩ : Fm).cells := by rw [h1, h2]; rfl
theorem tab_next {t : List Fm} {row : List C} {f : Fm} (h : row = f.cells) : X.v (.c (.sl 2 (Fm.rows t ++ [row]))) = xtab (t ++ [f]) := by rw [h]; exact xfm_snoc _ _
theorem Made_spec (d : List (List Dr)) : Ctr sys 21 [xdd d] [] (xtab (madeE d)) none [] := by
  have hdl := ddR_len d
  refine spec_intro Try.func21 rfl rfl rfl rfl rfl rfl ?_
  refine awp_seq (awp_region ?_)
  refine al_do rfl (does_nil (.inr rfl) rfl rfl) ?_
  refine al_nil ?_
  refine awp_seq (awp_region ?_)
  refine al_do rfl (does_nil (.inr rfl) rfl rfl) ?_
  refine al_nil ?_
  refine awp_seq ?_
  refine awp_seq (awp_region ?_)
  refine al_pure rfl rfl rfl (pure_assign rfl gU) ?_
  refine al_nil ?_
  refine awp_block ?_
  refine awp_for (ι := Nat) { t := [(0, _, _)], bx := [], ow := [((.t 3), _)] } (fun i => [(4, true, xi (i : Int)), (3, true, xtab (madeT d i))]) (fun i => []) (fun i => i ≤ min d.length 4) (fun i => min d.length 4 - i) (0) (Nat.zero_le _) (sub_mk (⟨sx rfl, ⟨sx rfl, ⟨sx rfl, trivial⟩⟩⟩) trivial (⟨rfl, trivial⟩)) ?_
  intro i hok
  dsimp only [List.cons_append, List.nil_append]
  have hT := madeT_len d i
  have hTr := Fm.rows_len (madeT d i)
  refine awp_seq ?_
  refine awp_seq (awp_region ?_)
  refine al_pure rfl rfl rfl (pure_move rfl gU) ?_
  refine al_pure rfl rfl rfl (pure_move rfl gU) ?_
  refine al_lenSl rfl rfl rfl rfl rfl gU rfl rfl ?_ (fun hh => by simp at hh); intro hlen
  refine al_pure rfl rfl rfl (pure_cmp rfl rfl gU gU rfl) ?_
  refine al_pure rfl rfl rfl (pure_move rfl gU) ?_
  refine al_pure rfl rfl rfl (pure_move rfl gU) ?_
  refine al_pure rfl rfl rfl (pure_cmp rfl rfl (fun hh => hh) gU rfl) ?_
  refine al_pure rfl rfl rfl (pure_and rfl rfl gU (fun _ hi => gP rfl hi)) ?_
  refine al_nil ?_
  refine awp_sub (s := { t := [(0, _, _), (3, _, _), (4, _, _), (14, _, _)], bx := [], ow := [((.t 3), _)] }) (sub_mk (⟨sx rfl, ⟨sx rfl, ⟨sx rfl, ⟨sx rfl, trivial⟩⟩⟩⟩) trivial (⟨rfl, trivial⟩)) ?_
  refine awp_cond rfl (fun hc => ?_) (fun hc => ?_)
  · try simp only [nn, Fd.rows_len, Fm.rows_len, Dr.rows_len, ddR_len] at hc
    refine awp_skip ?_
    refine awp_seq ?_
    refine awp_block ?_
    refine awp_seq (awp_region ?_)
    refine al_pure rfl rfl rfl (pure_move rfl gU) ?_
    refine al_call rfl rfl rfl rfl rfl rfl gU gU (digits_spec i (by omega)) rfl ?_
    refine al_pure rfl rfl rfl (pure_concat rfl rfl gU gU (by first | (simp; done) | (simp; omega))) ?_
    refine al_pure rfl rfl rfl (pure_buildX rfl Try.underlying60 rfl gU) ?_
    refine al_do rfl (does_alloc rfl rfl rfl) ?_
    refine al_do rfl (does_store rfl rfl rfl rfl rfl rfl rfl) ?_
    refine al_nil ?_
    refine awp_sub (s := { t := [(0, _, _), (3, _, _), (4, _, _), (5, _, _)], bx := [((.l 5), _)], ow := [((.t 3), _)] }) (sub_mk (⟨sx rfl, ⟨sx rfl, ⟨sx rfl, ⟨sx rfl, trivial⟩⟩⟩⟩) (⟨sx rfl, trivial⟩) (⟨rfl, trivial⟩)) ?_
    refine awp_seq ?_
    refine awp_seq (awp_region ?_)
    refine al_pure rfl rfl rfl (pure_assign rfl gU) ?_
    refine al_nil ?_
    refine awp_block ?_
    refine awp_own (.l 5) 1 5 rfl rfl rfl ?_
    have hLr := Dr.rows_len (d.getD i [])
    refine awp_for (ι := Nat) { t := [(0, _, _), (3, _, _), (4, _, _), (5, _, _)], bx := [], ow := [((.b (.l 5) 1), _), ((.t 3), _)] } (fun k => [(6, true, xi (k : Int))]) (fun k => [((.l 5), [.s ([102] ++ [UInt8.ofNat (48 + i)]), .sl 5 (Fd.rows (madeP (madeT d i) (d.getD i []) k))])]) (fun k => k ≤ min (d.getD i []).length 4) (fun k => min (d.getD i []).length 4 - k) (0) (Nat.zero_le _) (sub_mk (⟨sx rfl, ⟨sx rfl, ⟨sx rfl, ⟨sx rfl, ⟨sx rfl, trivial⟩⟩⟩⟩⟩) (⟨sx rfl, trivial⟩) (⟨rfl, ⟨rfl, trivial⟩⟩)) ?_
    intro k hok2
    dsimp only [List.cons_append, List.nil_append]
    have hPr := Fd.rows_len (madeP (madeT d i) (d.getD i []) k)
    have hPl := madeP_len (madeT d i) (d.getD i []) k
    refine awp_seq ?_
    refine awp_seq (awp_region ?_)
    refine al_pure rfl rfl rfl (pure_move rfl gU) ?_
    refine al_pure rfl rfl rfl (pure_move rfl gU) ?_
    refine al_pure rfl rfl rfl (pure_move rfl gU) ?_
    refine al_pure rfl rfl rfl (pure_indexAddr (j := i) rfl rfl gU gU rfl rfl (by first | omega | (simp at hh; omega)) (fun hh => ddR_at (by first | omega | (simp at hh; omega)))) ?_
    refine al_pure rfl rfl rfl (pure_loadRo rfl gU rfl rfl rfl) ?_
    refine al_lenSl rfl rfl rfl rfl rfl gU rfl rfl ?_ (fun hh => by simp at hh); intro hlen
    refine al_pure rfl rfl rfl (pure_cmp rfl rfl gU gU rfl) ?_
    refine al_pure rfl rfl rfl (pure_move rfl gU) ?_
    refine al_pure rfl rfl rfl (pure_move rfl gU) ?_
    refine al_pure rfl rfl rfl (pure_cmp rfl rfl (fun hh => hh) gU rfl) ?_
    refine al_pure rfl rfl rfl (pure_and rfl rfl gU (fun _ hi => gP rfl hi)) ?_
    refine al_nil ?_
    refine awp_sub (s := { t := [(0, _, _), (3, _, _), (4, _, _), (5, _, _), (6, _, _), (31, _, _)], bx := [((.l 5), _)], ow := [((.b (.l 5) 1), _), ((.t 3), _)] }) (sub_mk (⟨sx rfl, ⟨sx rfl, ⟨sx rfl, ⟨sx rfl, ⟨sx rfl, ⟨sx rfl, trivial⟩⟩⟩⟩⟩⟩) (⟨sx rfl, trivial⟩) (⟨rfl, ⟨rfl, trivial⟩⟩)) ?_
    refine awp_cond rfl (fun hca => ?_) (fun hca => ?_)
    · try simp only [nn, Fd.rows_len, Fm.rows_len, Dr.rows_len, ddR_len] at hca
      refine awp_skip ?_
      refine awp_seq ?_
      refine awp_block ?_
      refine awp_drawn' (by kernel_rfl) ?_
      refine dr_pure rfl rfl rfl rfl (pure_fieldPtr rfl gU rfl rfl) ?_
      refine dr_loadTake rfl rfl rfl rfl rfl rfl rfl rfl rfl rfl rfl rfl ?_
      refine dr_pure rfl rfl rfl rfl (pure_move rfl gU) ?_
      refine dr_pure rfl rfl rfl rfl (pure_move rfl gU) ?_
      refine dr_pure rfl rfl rfl rfl (pure_move rfl gU) ?_
      refine dr_pure rfl rfl rfl rfl (pure_indexAddr (j := i) rfl rfl gU gU rfl rfl (by first | omega | (simp at hh; omega)) (fun hh => ddR_at (by first | omega | (simp at hh; omega)))) ?_
      refine dr_pure rfl rfl rfl rfl (pure_loadRo rfl gU rfl rfl rfl) ?_
      refine dr_pure rfl rfl rfl rfl (pure_move rfl gU) ?_
      refine dr_pure rfl rfl rfl rfl (pure_indexAddr (j := k) rfl rfl gU gU rfl rfl (by first | omega | (simp at hh; omega)) (fun hh => Dr.rows_at (by first | omega | (simp at hh; omega)))) ?_
      refine dr_pure rfl rfl rfl rfl (pure_loadRoRow rfl gU rfl rfl rfl rfl) ?_
      refine dr_pure rfl rfl rfl rfl (pure_move rfl gU) ?_
      refine dr_pure rfl rfl rfl rfl (pure_move rfl gU) ?_
      refine dr_pure rfl rfl rfl rfl (pure_move rfl gU) ?_
      refine dr_pure rfl rfl rfl rfl (pure_indexAddr (j := i) rfl rfl gU gU rfl rfl (by first | omega | (simp at hh; omega)) (fun hh => ddR_at (by first | omega | (simp at hh; omega)))) ?_
      refine dr_pure rfl rfl rfl rfl (pure_loadRo rfl gU rfl rfl rfl) ?_
      refine dr_pure rfl rfl rfl rfl (pure_lenSl rfl gU rfl rfl) ?_
      refine dr_pure rfl rfl rfl rfl (pure_arith rfl rfl gU gU rfl (IntWalk.i64_in _ (by omega))) ?_
      refine dr_pure rfl rfl rfl rfl (pure_cmp rfl rfl gU gU rfl) ?_
      refine dr_pure rfl rfl rfl rfl (pure_move rfl gU) ?_
      refine dr_pure rfl rfl rfl rfl (pure_move rfl gU) ?_
      refine dr_pure rfl rfl rfl rfl (pure_cmp rfl rfl (fun hh => hh) gU rfl) ?_
      refine dr_pure rfl rfl rfl rfl (pure_or rfl rfl gU (fun _ hi => gP rfl hi)) ?_
      refine dr_callN rfl rfl rfl rfl rfl rfl rfl gU gU (made_spec _ _ _ (by omega)) rfl ?_
      refine dr_build (xs := [_]) rfl rfl rfl rfl rfl rfl rfl rfl rfl rfl gU rfl ?_
      refine dr_append rfl rfl rfl rfl rfl (rko (ak2 rfl (ak rfl (ak rfl (ak rfl (ak rfl (ak rfl (ak rfl (ak rfl (ak rfl (ak rfl (ak rfl (ak rfl (ak rfl (ak rfl (ak rfl (ak rfl (ak rfl (ak rfl (ak rfl (ak rfl (ak rfl (ak rfl (rfl)))))))))))))))))))))))) rfl rfl rfl rfl rfl (by simp [Fd.rows_len, Fm.rows_len, madeP_len, madeT_len]; omega) (by simp [Fd.rows_len, Fm.rows_len, madeP_len, madeT_len]; omega) ?_
      refine dr_pure rfl rfl rfl rfl (pure_fieldPtr rfl gU rfl rfl) ?_
      refine dr_storeOwn rfl rfl rfl rfl rfl rfl rfl rfl rfl rfl rfl rfl ?_
      refine dr_nil (by kernel_rfl) ?_
      refine awp_sub (s := { t := [(0, _, _), (3, _, _), (4, _, _), (5, _, _), (6, _, _)], bx := [((.l 5), _)], ow := [((.b (.l 5) 1), _), ((.t 3), _)] }) (sub_mk (⟨sx rfl, ⟨sx rfl, ⟨sx rfl, ⟨sx rfl, ⟨sx rfl, trivial⟩⟩⟩⟩⟩) (⟨sx rfl, trivial⟩) (⟨rfl, ⟨(ak2 rfl (ak rfl (ak2 rfl (ak2 rfl (ak rfl (ak rfl (ak rfl (ak rfl (ak rfl (ak rfl (ak rfl (ak rfl (ak rfl (ak rfl (ak rfl (ak rfl (ak rfl (ak rfl (ak rfl (ak rfl (ak rfl (ak rfl (ak rfl (ak rfl (ak rfl (ak2 rfl (ak rfl (rfl)))))))))))))))))))))))))))), trivial⟩⟩)) ?_
      refine awp_region ?_
      refine al_pure rfl rfl rfl (pure_move rfl gU) ?_
      refine al_pure rfl rfl rfl (pure_arith rfl rfl gU gU rfl (IntWalk.i64_in _ (by omega))) ?_
      refine al_pure rfl rfl rfl (pure_assign rfl gU) ?_
      refine al_nil ?_
      refine ⟨k + 1, ?_, ?_, sub_mk (⟨⟨_, rfl, ?_⟩, ⟨sx rfl, ⟨sx rfl, ⟨sx rfl, ⟨sx rfl, trivial⟩⟩⟩⟩⟩) (⟨⟨_, rfl, ?_⟩, trivial⟩) (⟨rfl, ⟨rfl, trivial⟩⟩)⟩
      · omega
      · omega
      · rfl
      · rw [madeP_snoc, ← Fd.rows_snoc]
        have hb : (decide ((k : Int) = ((Dr.rows (d.getD i [])).length : Int) - 1) || decide ((k : Int) = 3)) = (decide (k + 1 = (d.getD i []).length) || decide (k = 3)) := by
          congr 1
          · exact decide_eq_decide.2 (by omega)
          · exact decide_eq_decide.2 (by omega)
        rw [← hb]
        rfl
    · try simp only [nn, Fd.rows_len, Fm.rows_len, Dr.rows_len, ddR_len] at hca
      have hk : k = min (d.getD i []).length 4 := by omega
      refine awp_exit ?_
      repeat (first | refine thenS_exit ?_ | refine blockS_hit ?_ | refine blockS_miss rfl ?_)
      refine awp_seq ?_
      refine awp_seq (awp_region ?_)
      refine al_pure rfl rfl rfl (pure_fieldPtr rfl gU rfl rfl) ?_
      refine al_do rfl (does_loadTake rfl rfl rfl rfl rfl rfl rfl) ?_
      refine al_lenSl rfl rfl rfl rfl rfl gU rfl rfl ?_ (fun hh => by simp at hh); intro hlen
      refine al_pure rfl rfl rfl (pure_cmp rfl rfl gU gU rfl) ?_
      refine al_nil ?_
      refine awp_cond rfl (fun hcb => ?_) (fun hcb => ?_)
      · try simp only [nn, Fd.rows_len, Fm.rows_len, Dr.rows_len, ddR_len] at hcb
        have h0 : min (d.getD i []).length 4 = 0 := by omega
        refine awp_region ?_
        refine al_pure rfl rfl rfl (pure_build rfl Try.underlying62 rfl gU) ?_
        refine al_buildSlice (xs := [_]) rfl rfl rfl rfl rfl rfl rfl rfl rfl gU rfl ?_
        refine al_pure rfl rfl rfl (pure_fieldPtr rfl gU rfl rfl) ?_
        refine al_do rfl (does_storeOwn rfl rfl rfl rfl rfl rfl rfl) ?_
        refine al_nil ?_
        refine awp_sub (s := { t := [(0, _, _), (3, _, _), (4, _, _), (5, _, _)], bx := [((.l 5), _)], ow := [((.b (.l 5) 1), _), ((.t 3), _)] }) (sub_mk (⟨sx rfl, ⟨sx rfl, ⟨sx rfl, ⟨sx rfl, trivial⟩⟩⟩⟩) (⟨sx rfl, trivial⟩) (⟨rfl, ⟨rfl, trivial⟩⟩)) ?_
        refine awp_region ?_
        refine al_do rfl (does_take (.inl rfl) rfl rfl rfl) ?_
        refine al_pure rfl rfl rfl (pure_loadBoxRow rfl gU rfl rfl rfl rfl rfl) ?_
        refine al_buildSlice (xs := [_]) rfl rfl rfl rfl rfl rfl rfl rfl rfl gU rfl ?_
        refine al_do rfl (does_append rfl rfl rfl rfl rfl rfl rfl (by simp [Fd.rows_len, Fm.rows_len, madeP_len, madeT_len]; omega) (by simp [Fd.rows_len, Fm.rows_len, madeP_len, madeT_len]; omega)) ?_
        refine al_do rfl (does_take (.inr rfl) rfl rfl rfl) ?_
        refine al_nil ?_
        refine awp_sub (s := { t := [(0, _, _), (3, _, _), (4, _, _)], bx := [], ow := [((.t 3), _)] }) (sub_mk (⟨sx rfl, ⟨sx rfl, ⟨sx rfl, trivial⟩⟩⟩) trivial (⟨rfl, trivial⟩)) ?_
        refine awp_region ?_
        refine al_pure rfl rfl rfl (pure_move rfl gU) ?_
        refine al_pure rfl rfl rfl (pure_arith rfl rfl gU gU rfl (IntWalk.i64_in _ (by omega))) ?_
        refine al_pure rfl rfl rfl (pure_assign rfl gU) ?_
        refine al_nil ?_
        refine ⟨i + 1, ?_, ?_, sub_mk (⟨⟨_, rfl, ?_⟩, ⟨⟨_, rfl, ?_⟩, ⟨sx rfl, trivial⟩⟩⟩) trivial (⟨rfl, trivial⟩)⟩
        · omega
        · omega
        · rfl
        · refine tx (tab_next (fm_row rfl ?_))
          rw [madeL, if_pos h0]; rfl
      · try simp only [nn, Fd.rows_len, Fm.rows_len, Dr.rows_len, ddR_len] at hcb
        have h0 : ¬ min (d.getD i []).length 4 = 0 := by omega
        refine awp_skip ?_
        refine awp_region ?_
        refine al_do rfl (does_take (.inl rfl) rfl rfl rfl) ?_
        refine al_pure rfl rfl rfl (pure_loadBoxRow rfl gU rfl rfl rfl rfl rfl) ?_
        refine al_buildSlice (xs := [_]) rfl rfl rfl rfl rfl rfl rfl rfl rfl gU rfl ?_
        refine al_do rfl (does_append rfl rfl rfl rfl rfl rfl rfl (by simp [Fd.rows_len, Fm.rows_len, madeP_len, madeT_len]; omega) (by simp [Fd.rows_len, Fm.rows_len, madeP_len, madeT_len]; omega)) ?_
        refine al_do rfl (does_take (.inr rfl) rfl rfl rfl) ?_
        refine al_nil ?_
        refine awp_sub (s := { t := [(0, _, _), (3, _, _), (4, _, _)], bx := [], ow := [((.t 3), _)] }) (sub_mk (⟨sx rfl, ⟨sx rfl, ⟨sx rfl, trivial⟩⟩⟩) trivial (⟨rfl, trivial⟩)) ?_
        refine awp_region ?_
        refine al_pure rfl rfl rfl (pure_move rfl gU) ?_
        refine al_pure rfl rfl rfl (pure_arith rfl rfl gU gU rfl (IntWalk.i64_in _ (by omega))) ?_
        refine al_pure rfl rfl rfl (pure_assign rfl gU) ?_
        refine al_nil ?_
        refine ⟨i + 1, ?_, ?_, sub_mk (⟨⟨_, rfl, ?_⟩, ⟨⟨_, rfl, ?_⟩, ⟨sx rfl, trivial⟩⟩⟩) trivial (⟨rfl, trivial⟩)⟩
        · omega
        · omega
        · rfl
        · refine tx (tab_next (fm_row rfl ?_))
          rw [madeL, if_neg h0, ← hk]
  · try simp only [nn, Fd.rows_len, Fm.rows_len, Dr.rows_len, ddR_len] at hc
    have hi : i = min d.length 4 := by omega
    refine awp_exit ?_
    repeat (first | refine thenS_exit ?_ | refine blockS_hit ?_ | refine blockS_miss rfl ?_)
    refine awp_seq (awp_region ?_)
    refine al_do rfl (does_take (.inl rfl) rfl rfl rfl) ?_
    refine al_do rfl (does_take (.inr rfl) rfl rfl rfl) ?_
    refine al_nil ?_
    refine awp_ret ?_
    repeat (first | refine tR ?_ | refine bR ?_)
    refine ret_ok rfl ?_ trivial
    (rw [madeE, ← hi]; rfl)
end Go.Proofs.Ytgjclggjkhapfaa
/- Laws of the codec (plain): what is encoded is decoded, and back. -/
set_option linter.unusedVariables false
set_option linter.unusedSimpArgs false
namespace Go.Proofs.Ytgjclggjkhapfaa
open Go Go.Abs
theorem getD_mid (p : List UInt8) (b : UInt8) (q : List UInt8) : (p ++ b :: q).getD p.length 0 = b := by simp
theorem slice_mid (p l q : List UInt8) : ((p ++ (l ++ q)).take (p.length + l.length)).drop p.length = l := by
  rw [List.take_length_add_append, List.take_left', List.drop_left']
  · rfl
  · rfl
theorem tag_mid : ∀ (l p q : List UInt8) (e : Nat), p.length + l.length ≤ e → tagP (p ++ (l ++ q)) e l p.length = ⟨v0, p.length + l.length, true⟩
  | [], p, q, e, h => by rw [tagP]; rfl
  | c :: l, p, q, e, h => by
    have ih := tag_mid l (p ++ [c]) q e (by simp at h ⊢; omega)
    rw [List.append_assoc, List.singleton_append] at ih
    simp only [List.length_append, List.length_singleton] at ih
    rw [tagP, List.cons_append, getD_mid, if_neg (by simp only [List.length_cons] at h; rintro (h1 | h1); omega; exact h1 rfl), ih]
    simp only [List.length_cons]
    rw [show p.length + 1 + l.length = p.length + (l.length + 1) by omega]
theorem fvE_both {rec : Int → V → Int} {f : Fd} {v : V} (h : fvE rec f v = 0) : fitsB f v = true ∧ rngB f v = true := by
  unfold fvE at h
  split at h
  · simp at h
  · rename_i h1
    split at h
    · simp at h
    · rename_i h2
      exact ⟨by simpa using h1, by simpa using h2⟩
theorem V.of_bytes {x : V} (h1 : x.number = 0) (h2 : x.kids.length = 0) : x = bv x.bytes := V.ext' rfl h1 (List.eq_nil_of_length_eq_zero h2)
theorem fld_mid {k : Bool} {rec : Int → Nat → Nat → Pl} {rec' : Int → V → Int} {r : Int → V → List UInt8} {t : List Fm} {f : Fd} {x : V} {s p q : List UInt8} {e : Nat} {pre : Bool} (hf : FdOk f) (hv : fvE rec' f x = 0) (h5 : f.kind ≠ 5)
    (hs : s = p ++ (encF r f x ++ q)) (he : p.length + (encF r f x).length ≤ e) (h6 : f.kind = 6 → e = p.length + (encF r f x).length) :
    fldP k rec t f s p.length e pre = ⟨x, p.length + (encF r f x).length, true⟩ := by
  obtain ⟨h1, h2⟩ := fvE_both hv
  obtain ⟨w1, w3, w2, w4⟩ := fvE_ok hf hv fun q => absurd q h5
  obtain ⟨k1, k2, k3, k4, k5, k6, k7⟩ := hf
  obtain kd | kd | kd | kd | kd : f.kind = 1 ∨ f.kind = 2 ∨ f.kind = 3 ∨ f.kind = 4 ∨ f.kind = 6 := by omega
  · have hx : x = v0 := by
      unfold fitsB at h1
      rw [if_pos kd] at h1
      unfold zeroB at h1
      simp only [Bool.and_eq_true, decide_eq_true_eq] at h1
      exact V.ext' h1.1.1 h1.1.2 (List.eq_nil_of_length_eq_zero h1.2)
    have he' : encF r f x = f.bytes := by rw [encF, if_pos kd]
    rw [he'] at hs he ⊢
    rw [fldP, if_pos kd, hs, tag_mid _ _ _ _ he, hx]
  · have he' : encF r f x = x.bytes := by unfold encF; rw [if_neg (by omega), if_neg (by omega), if_neg (by omega), if_neg (by omega)]
    rw [he'] at hs he ⊢
    unfold fitsB at h1
    rw [if_neg (by omega), if_neg (by omega), if_neg (by omega)] at h1
    unfold rngB at h2
    rw [if_pos kd] at h2
    simp only [Bool.and_eq_true, decide_eq_true_eq] at h1 h2
    have hn : f.n.toNat = x.bytes.length := by omega
    rw [fldP, if_neg (by omega), if_pos kd, takeP, hn, if_neg (by omega), hs, slice_mid, ← V.of_bytes h1.1 h1.2]
  · have he' : encF r f x = UInt8.ofNat x.bytes.length :: x.bytes := by unfold encF; rw [if_neg (by omega), if_pos kd]
    rw [he'] at hs he ⊢
    unfold fitsB at h1
    rw [if_neg (by omega), if_neg (by omega), if_neg (by omega)] at h1
    unfold rngB at h2
    rw [if_neg (by omega), if_pos kd] at h2
    simp only [Bool.and_eq_true, decide_eq_true_eq] at h1 h2
    have hb : s.getD p.length 0 = UInt8.ofNat x.bytes.length := by rw [hs, List.cons_append, getD_mid]
    have hbn : (UInt8.ofNat x.bytes.length).toNat = x.bytes.length := by rw [UInt8.toNat_ofNat']; have := w3 kd; omega
    simp only [List.length_cons] at he ⊢
    rw [fldP, if_neg (by omega), if_neg (by omega), if_pos kd, if_neg (by omega), hb, hbn, if_neg (by omega), takeP, if_neg (by omega)]
    have hs2 : s = (p ++ [UInt8.ofNat x.bytes.length]) ++ (x.bytes ++ q) := by rw [hs]; simp
    have hsl := slice_mid (p ++ [UInt8.ofNat x.bytes.length]) x.bytes q
    simp only [List.length_append, List.length_singleton] at hsl
    rw [hs2, hsl, ← V.of_bytes h1.1 h1.2, show p.length + 1 + x.bytes.length = p.length + (x.bytes.length + 1) by omega]
  · have he' : encF r f x = [UInt8.ofNat x.number.toNat] := by unfold encF; rw [if_neg (by omega), if_neg (by omega), if_pos kd]
    rw [he'] at hs he ⊢
    unfold fitsB at h1
    rw [if_neg (by omega), if_pos kd] at h1
    unfold rngB at h2
    rw [if_neg (by omega), if_neg (by omega), if_pos kd] at h2
    simp only [Bool.and_eq_true, decide_eq_true_eq] at h1 h2
    have hb : s.getD p.length 0 = UInt8.ofNat x.number.toNat := by rw [hs, List.singleton_append, getD_mid]
    have hw := w4 kd
    have hbn : ((UInt8.ofNat x.number.toNat).toNat : Int) = x.number := by rw [UInt8.toNat_ofNat']; omega
    simp only [List.length_singleton] at he ⊢
    rw [fldP, if_neg (by omega), if_neg (by omega), if_neg (by omega), if_pos kd, if_neg (by omega), hb, hbn, if_neg (by omega)]
    have : V.mk [] x.number [] = x := V.ext' h1.1.symm rfl (List.eq_nil_of_length_eq_zero h1.2).symm
    rw [this]
  · have he' : encF r f x = x.bytes := by unfold encF; rw [if_neg (by omega), if_neg (by omega), if_neg (by omega), if_neg (by omega)]
    have h6 := h6 kd
    rw [he'] at hs he h6 ⊢
    unfold fitsB at h1
    rw [if_neg (by omega), if_neg (by omega), if_neg (by omega)] at h1
    unfold rngB at h2
    rw [if_neg (by omega), if_neg (by omega), if_neg (by omega), if_pos kd] at h2
    simp only [Bool.and_eq_true, decide_eq_true_eq] at h1 h2
    have hn : e - p.length = x.bytes.length := by omega
    rw [fldP, if_neg (by omega), if_neg (by omega), if_neg (by omega), if_neg (by omega), if_neg (by omega), hn, if_neg (by omega), if_neg (by omega), show min x.bytes.length f.high.toNat = x.bytes.length by omega, takeP, if_neg (by omega), hs, slice_mid, ← V.of_bytes h1.1 h1.2]
theorem readL_mid {k : Bool} {rec : Int → Nat → Nat → Pl} {r : Int → V → List UInt8} {t : List Fm} {s : List UInt8} {pre : Bool} : ∀ (fs : List Fd) (vs acc : List V) (p q : List UInt8), vs.length = fs.length → s = p ++ (encL r fs vs ++ q) →
    (∀ j, j < fs.length → ∀ (p q : List UInt8) (e : Nat), s = p ++ (encF r (fs.getD j default) (vs.getD j default) ++ q) → p.length + (encF r (fs.getD j default) (vs.getD j default)).length ≤ e →
      (j + 1 = fs.length → e = p.length + (encF r (fs.getD j default) (vs.getD j default)).length) → fldP k rec t (fs.getD j default) s p.length e pre = ⟨vs.getD j default, p.length + (encF r (fs.getD j default) (vs.getD j default)).length, true⟩) →
    readL k rec t s (p.length + (encL r fs vs).length) pre fs acc p.length = ⟨.mk [] 0 (acc ++ vs), p.length + (encL r fs vs).length, true⟩
  | [], [], acc, p, q, _, _, _ => by rw [readL, List.append_nil]; rfl
  | [], _ :: _, _, _, _, h, _, _ => by simp at h
  | _ :: _, [], _, _, _, h, _, _ => by simp at h
  | f :: fs, v :: vs, acc, p, q, hl, hs, h => by
    have hs' : s = p ++ (encF r f v ++ (encL r fs vs ++ q)) := by rw [hs, encL, List.append_assoc]
    have h0 := h 0 (by simp) p (encL r fs vs ++ q) (p.length + (encL r (f :: fs) (v :: vs)).length) (by simpa using hs') (by simp [encL]) (by
      intro h1
      have : fs = [] := by simpa using h1.symm
      subst this
      have : vs = [] := by simpa using hl
      subst this
      simp [encL])
    simp only [List.getD_cons_zero] at h0
    have hs2 : s = (p ++ encF r f v) ++ (encL r fs vs ++ q) := by rw [hs', List.append_assoc]
    have ih := readL_mid fs vs (acc ++ [v]) (p ++ encF r f v) q (by simpa using hl) hs2 fun j hj p q e a b c => by
      have := h (j + 1) (by simpa using hj) p q e (by simpa using a) (by simpa using b) (by intro hh; simpa using c (by simpa using hh))
      simpa using this
    simp only [List.length_append] at ih
    rw [readL, h0, if_pos rfl]
    simp only [encL, List.length_append]
    rw [← Nat.add_assoc, ih, List.append_assoc]
    rfl
/-- The lengths are within the bounds. -/
theorem encF_bnd {rec' : Int → V → Int} {r : Int → V → List UInt8} {rb : Int → Int × Int} {f : Fd} {x : V} (hf : FdOk f) (hv : fvE rec' f x = 0) (h5 : f.kind = 5 → (rb f.n).1 ≤ (r f.n x).length ∧ ((r f.n x).length : Int) ≤ (rb f.n).2) :
    (bndF rb f).1 ≤ (encF r f x).length ∧ ((encF r f x).length : Int) ≤ (bndF rb f).2 := by
  obtain ⟨h1, h2⟩ := fvE_both hv
  obtain ⟨k1, k2, k3, k4, k5, k6, k7⟩ := hf
  obtain ⟨c1, c2, c3, c4, c5, c6⟩ := bndF_cases rb f
  unfold rngB at h2
  unfold encF
  obtain kd | kd | kd | kd | kd | kd : f.kind = 1 ∨ f.kind = 2 ∨ f.kind = 3 ∨ f.kind = 4 ∨ f.kind = 5 ∨ f.kind = 6 := by omega
  · have := c1 kd; rw [if_pos kd]; omega
  · have := c2 kd; rw [if_pos kd] at h2; simp only [decide_eq_true_eq] at h2; rw [if_neg (by omega), if_neg (by omega), if_neg (by omega), if_neg (by omega)]; omega
  · have := c3 kd; rw [if_neg (by omega), if_pos kd] at h2; simp only [decide_eq_true_eq] at h2; rw [if_neg (by omega), if_pos kd]; simp only [List.length_cons]; omega
  · have := c4 kd; rw [if_neg (by omega), if_neg (by omega), if_pos kd]; simp only [List.length_singleton]; omega
  · have := c5 kd; have := h5 kd; rw [if_neg (by omega), if_neg (by omega), if_neg (by omega), if_pos kd]; simp only [List.length_cons]; omega
  · have := c6 kd; rw [if_neg (by omega), if_neg (by omega), if_neg (by omega), if_pos kd] at h2; simp only [Bool.and_eq_true, decide_eq_true_eq] at h2; rw [if_neg (by omega), if_neg (by omega), if_neg (by omega), if_neg (by omega)]; omega
theorem encL_bnd {r : Int → V → List UInt8} {rb : Int → Int × Int} : ∀ {fs : List Fd} {vs : List V}, vs.length = fs.length → (∀ j, j < fs.length → (bndF rb (fs.getD j default)).1 ≤ (encF r (fs.getD j default) (vs.getD j default)).length ∧ ((encF r (fs.getD j default) (vs.getD j default)).length : Int) ≤ (bndF rb (fs.getD j default)).2) →
    (bndL rb fs).1 ≤ (encL r fs vs).length ∧ ((encL r fs vs).length : Int) ≤ (bndL rb fs).2
  | [], [], _, _ => by simp [bndL, encL]
  | [], _ :: _, h, _ => by simp at h
  | _ :: _, [], h, _ => by simp at h
  | f :: fs, v :: vs, hl, h => by
    have h0 := h 0 (by simp)
    simp only [List.getD_cons_zero] at h0
    have ih := encL_bnd (r := r) (rb := rb) (fs := fs) (vs := vs) (by simpa using hl) fun j hj => by have := h (j + 1) (by simpa using hj); simpa using this
    simp only [bndL, encL, List.length_append]
    omega
theorem enc0_bnd {t : List Fm} {i : Int} {v : V} (hp : Plain1 (t.getD i.toNat default).fields) (h : val0 t i v = 0) : (bnd0 t i).1 ≤ (enc0 t i v).length ∧ ((enc0 t i v).length : Int) ≤ (bnd0 t i).2 :=
  encL_bnd (valG_ok h).2.2.1 fun j hj => encF_bnd (hp.ok j hj).1 ((valG_ok h).2.2.2 j hj) fun h5 => absurd h5 (hp.ok j hj).2.1
theorem encT_bnd {t : List Fm} {i : Int} {v : V} (hf : Fds t (t.getD i.toNat default).fields) (h : valT t i v = 0) : (bndT t i).1 ≤ (encT t i v).length ∧ ((encT t i v).length : Int) ≤ (bndT t i).2 :=
  encL_bnd (valG_ok h).2.2.1 fun j hj => encF_bnd (hf.ok j hj) ((valG_ok h).2.2.2 j hj) fun h5 => enc0_bnd (hf.nest j hj h5).2 (fvE_five h5 ((valG_ok h).2.2.2 j hj))
theorem V.of_kids {v : V} (h1 : v.bytes = []) (h2 : v.number = 0) : V.mk [] 0 v.kids = v := V.ext' h1.symm h2.symm rfl
theorem read0_mid {t : List Fm} {i : Int} {v : V} {s p q : List UInt8} (hp : Plain1 (t.getD i.toNat default).fields) (h : val0 t i v = 0) (hs : s = p ++ (enc0 t i v ++ q)) :
    read0 false t s i p.length (p.length + (enc0 t i v).length) = ⟨v, p.length + (enc0 t i v).length, true⟩ := by
  have hk := valG_ok h
  have := readL_mid (k := false) (rec := fun _ _ _ => failP 0) (r := fun _ _ => []) (t := t) (s := s) (pre := false) (t.getD i.toNat default).fields v.kids [] p q hk.2.2.1 hs fun j hj p q e a b c =>
    fld_mid (hp.ok j hj).1 (hk.2.2.2 j hj) (hp.ok j hj).2.1 a b fun h6 => absurd h6 (hp.ok j hj).2.2
  rw [List.nil_append, V.of_kids hk.1 hk.2.1] at this
  exact this
/-- A nested format is valid by itself. -/
theorem errE_nest {t : List Fm} {i : Int} (he : errE t i = 0) {k : Nat} (hk : k < (t.getD i.toNat default).fields.length) (h5 : ((t.getD i.toNat default).fields.getD k default).kind = 5) :
    errE t ((t.getD i.toNat default).fields.getD k default).n = 0 := by
  obtain ⟨hi, h⟩ := errE_fds he
  obtain ⟨q1, q2⟩ := h.nest k hk h5
  have q3 := (h.ok k hk).n
  have hv : validE t = 0 := by
    unfold errE at he
    split at he
    · rename_i hh; exact absurd he hh
    · rename_i hh; exact Decidable.not_not.1 hh
  unfold errE
  rw [if_neg (by omega), if_neg (by omega)]
theorem rest_last {t : List Fm} {i : Int} (he : errE t i = 0) (k : Nat) (hk : k < (t.getD i.toNat default).fields.length) (h6 : ((t.getD i.toNat default).fields.getD k default).kind = 6) : k + 1 = (t.getD i.toNat default).fields.length := by
  obtain ⟨h1, h2, h3⟩ := errE_zero he
  have := h1.fd i.toNat (by omega) k hk
  have := (fieldE_rng this).2.1
  unfold rangeB at this
  rw [if_neg (by omega), if_neg (by omega), if_neg (by omega), if_neg (by omega), if_pos h6] at this
  simp only [Bool.and_eq_true, decide_eq_true_eq] at this
  exact this.1.1.1
theorem nest_mid {t : List Fm} {n : Int} {v : V} {s p q : List UInt8} {e : Nat} (he : errE t n = 0) (hp : Plain1 (t.getD n.toNat default).fields) (h : val0 t n v = 0) (hs : s = p ++ (UInt8.ofNat (enc0 t n v).length :: enc0 t n v ++ q)) (hle : p.length + ((enc0 t n v).length + 1) ≤ e) :
    nestP false (read0 false t s) t n s p.length e = ⟨v, p.length + ((enc0 t n v).length + 1), true⟩ := by
  have hb : s.getD p.length 0 = UInt8.ofNat (enc0 t n v).length := by rw [hs, List.cons_append, getD_mid]
  have hl := enc0_len hp h
  have hbn : (UInt8.ofNat (enc0 t n v).length).toNat = (enc0 t n v).length := by rw [UInt8.toNat_ofNat']; omega
  have hs2 : s = (p ++ [UInt8.ofNat (enc0 t n v).length]) ++ (enc0 t n v ++ q) := by rw [hs]; simp
  have hr := read0_mid hp h hs2
  simp only [List.length_append, List.length_singleton] at hr
  have hbd := enc0_bnd hp h
  obtain ⟨z1, z2⟩ := boundsE_zero he
  rw [bnd_nest hp] at z1 z2
  rw [nestP, if_neg (by omega), hb, hbn, if_neg (by omega), if_neg (by omega), hr, if_neg (by simp)]
  rw [show p.length + 1 + (enc0 t n v).length = p.length + ((enc0 t n v).length + 1) by omega]
/-- Decoding leads back. -/
theorem dec_enc {t : List Fm} {i : Int} {v : V} (h : valE t i v = 0) : decE t i (encT t i v) = (v, 0, 0) := by
  have he : errE t i = 0 := by
    unfold valE at h
    split at h
    · rename_i h1; exact absurd h h1
    · rename_i h1; exact Decidable.not_not.1 h1
  obtain ⟨⟨hi, hf⟩, hv⟩ := valE_zero h
  have hk := valG_ok hv
  have key := readL_mid (k := false) (rec := read0 false t (encT t i v)) (r := enc0 t) (t := t) (s := encT t i v) (pre := false) (t.getD i.toNat default).fields v.kids [] [] [] hk.2.2.1 (by rw [List.nil_append, List.append_nil]; rfl) fun j hj p q e a b c => by
    by_cases h5 : ((t.getD i.toNat default).fields.getD j default).kind = 5
    · have he5 : encF (enc0 t) ((t.getD i.toNat default).fields.getD j default) (v.kids.getD j default) = UInt8.ofNat (enc0 t ((t.getD i.toNat default).fields.getD j default).n (v.kids.getD j default)).length :: enc0 t ((t.getD i.toNat default).fields.getD j default).n (v.kids.getD j default) := by
        unfold encF; rw [if_neg (by omega), if_neg (by omega), if_neg (by omega), if_pos h5]
      rw [he5] at a b ⊢
      simp only [List.length_cons] at b ⊢
      have := nest_mid (errE_nest he hj h5) (hf.nest j hj h5).2 (fvE_five h5 (hk.2.2.2 j hj)) a b
      rw [fldP, if_neg (by omega), if_neg (by omega), if_neg (by omega), if_neg (by omega), if_pos h5]
      exact this
    · exact fld_mid (hf.ok j hj) (hk.2.2.2 j hj) h5 a b fun h6 => c (rest_last he j hj h6)
  rw [List.nil_append, V.of_kids hk.1 hk.2.1] at key
  simp only [List.length_nil, Nat.zero_add] at key
  have hr : readT false t (encT t i v) false i 0 (encT t i v).length = ⟨v, (encT t i v).length, true⟩ := key
  rw [decE, if_neg (by omega), hr, if_neg (by simp)]
end Go.Proofs.Ytgjclggjkhapfaa
/- Laws of the codec (plain): where reading fails, no string that begins so far belongs to the format. -/
set_option linter.unusedVariables false
set_option linter.unusedSimpArgs false
namespace Go.Proofs.Ytgjclggjkhapfaa
open Go Go.Abs
theorem ag_get {s u : List UInt8} {m j : Nat} (h : s.take m = u.take m) (hj : j < m) : s.getD j 0 = u.getD j 0 := by
  rw [← getD_take s 0 hj, ← getD_take u 0 hj, h]
theorem ag_le {s u : List UInt8} {m n : Nat} (h : s.take m = u.take m) (hn : n ≤ m) : s.take n = u.take n := by
  have e : ∀ l : List UInt8, l.take n = (l.take m).take n := fun l => by rw [List.take_take, Nat.min_eq_left hn]
  rw [e s, e u, h]
/-! ### What is read does not depend on what stands behind the end -/
theorem takeP_cg {s u : List UInt8} {a n e : Nat} (h : s.take e = u.take e) : takeP s a n e = takeP u a n e := by
  unfold takeP
  split
  · rfl
  · rw [ag_le h (by omega)]
theorem tagP_cg {s u : List UInt8} {e : Nat} (h : s.take e = u.take e) : ∀ {l : List UInt8} {a : Nat}, tagP s e l a = tagP u e l a
  | [], a => rfl
  | c :: l, a => by
    rw [tagP, tagP, tagP_cg h]
    by_cases ha : e ≤ a
    · rw [if_pos (.inl ha), if_pos (.inl ha)]
    · rw [ag_get h (by omega)]
theorem fldP_cg {rec : Int → Nat → Nat → Pl} {t : List Fm} {f : Fd} {s u : List UInt8} {a e : Nat} {pre : Bool} (h5 : f.kind ≠ 5) (h : s.take e = u.take e) : fldP false rec t f s a e pre = fldP false rec t f u a e pre := by
  unfold fldP
  rw [tagP_cg h, takeP_cg h, takeP_cg (n := min (e - a) f.high.toNat) h, if_neg h5, if_neg h5]
  by_cases ha : e ≤ a
  · rw [if_pos ha, if_pos ha, if_pos ha, if_pos ha]
  · rw [ag_get h (by omega : a < e), takeP_cg (a := a + 1) h]
theorem read0_cg {t : List Fm} {s u : List UInt8} {e : Nat} (h : s.take e = u.take e) {rec : Int → Nat → Nat → Pl} : ∀ {fs : List Fd} {acc : List V} {a : Nat}, (∀ j, j < fs.length → (fs.getD j default).kind ≠ 5) →
    readL false rec t s e false fs acc a = readL false rec t u e false fs acc a
  | [], acc, a, _ => rfl
  | f :: fs, acc, a, hp => by
    have h0 := hp 0 (by simp)
    rw [List.getD_cons_zero] at h0
    rw [readL, readL, fldP_cg h0 h, read0_cg h fun j hj => by have := hp (j + 1) (by simpa using hj); simpa using this]
/-! ### The same beginning -/
theorem tag_pos {s u : List UInt8} {e e' m : Nat} (h : s.take (m + 1) = u.take (m + 1)) (he : m < e) (he' : m < e') : ∀ {l : List UInt8} {a : Nat}, (tagP s e l a).p ≤ m → a ≤ m →
    ((tagP s e l a).ok = true → tagP u e' l a = tagP s e l a) ∧ ((tagP s e l a).ok = false → (tagP s e l a).p = m → (tagP u e' l a).ok = false)
  | [], a, hp, ha => ⟨fun _ => rfl, fun h => by simp [tagP] at h⟩
  | c :: l, a, hp, ha => by
    rw [tagP] at hp ⊢
    by_cases c1 : e ≤ a ∨ s.getD a 0 ≠ c
    · rw [if_pos c1]
      refine ⟨fun q => by simp at q, fun _ q => ?_⟩
      have q : a = m := q
      rw [tagP, if_pos]
      rcases c1 with c1 | c1
      · omega
      · right; rw [← ag_get h (by omega)]; exact c1
    · rw [if_neg c1] at hp ⊢
      have c2 : ¬ e ≤ a := fun q => c1 (.inl q)
      have c3 : s.getD a 0 = c := Decidable.not_not.1 fun q => c1 (.inr q)
      have hlt := tagP_le (s := s) (e := e) (l := l) (a := a + 1) (by omega)
      obtain ⟨i1, i2⟩ := tag_pos h he he' (l := l) (a := a + 1) hp (by omega)
      rw [tagP, if_neg (by rintro (q | q); omega; exact q (by rw [← ag_get h (by omega)]; exact c3))]
      exact ⟨i1, i2⟩
theorem take_pos {s u : List UInt8} {a n e e' m : Nat} (h : s.take (m + 1) = u.take (m + 1)) (he : m < e) (he' : m < e') (hp : (takeP s a n e).p ≤ m) : (takeP s a n e).ok = true ∧ takeP u a n e' = takeP s a n e := by
  unfold takeP at hp ⊢
  by_cases c : e < a + n
  · rw [if_pos c] at hp; dsimp only at hp; omega
  · rw [if_neg c] at hp ⊢
    dsimp only at hp
    rw [if_neg (by omega), ag_le h (by omega)]
    exact ⟨rfl, rfl⟩
/-- What holds of reading s up to e and u up to e'. -/
def Pos (m : Nat) (p q : Pl) : Prop := p.p ≤ m → (p.ok = true → q = p) ∧ (p.ok = false → p.p = m → q.ok = false)
theorem Pos.bad {m : Nat} {p q : Pl} (h : m < p.p) : Pos m p q := fun hp => by omega
theorem Pos.take {s u : List UInt8} {a n e e' m : Nat} (h : s.take (m + 1) = u.take (m + 1)) (he : m < e) (he' : m < e') : Pos m (takeP s a n e) (takeP u a n e') := fun hp => by
  obtain ⟨h1, h2⟩ := take_pos h he he' hp
  exact ⟨fun _ => h2, fun q => by rw [h1] at q; simp at q⟩
theorem fld_pos {rec rec' : Int → Nat → Nat → Pl} {t : List Fm} {f : Fd} {s u : List UInt8} {a e e' m : Nat} (hf : FdOk f) (h5 : f.kind ≠ 5) (h : s.take (m + 1) = u.take (m + 1)) (he : m < e) (he' : m < e') (ha : a ≤ e) :
    Pos m (fldP false rec t f s a e false) (fldP false rec' t f u a e' false) := by
  obtain ⟨k1, k2, k3, k4, k5, k6, k7⟩ := hf
  by_cases ham : m < a
  · exact Pos.bad (by have := fldP_le (k := false) (rec := rec) (t := t) (f := f) (s := s) (pre := false) ha fun q => absurd q h5; omega)
  have hg := ag_get h (j := a) (by omega)
  unfold fldP
  obtain kd | kd | kd | kd | kd : f.kind = 1 ∨ f.kind = 2 ∨ f.kind = 3 ∨ f.kind = 4 ∨ f.kind = 6 := by omega
  · rw [if_pos kd, if_pos kd]
    exact fun hp => tag_pos h he he' hp (by omega)
  · rw [if_neg (by omega), if_pos kd, if_neg (by omega), if_pos kd]
    exact Pos.take h he he'
  · have E : ∀ (w : List UInt8) (x : Nat) (A B C D F G : Pl), (if f.kind = 1 then A else if f.kind = 2 then B else if f.kind = 3 then C else if f.kind = 4 then D else if f.kind = 5 then F else G) = C := fun w x A B C D F G => by
      rw [if_neg (by omega), if_neg (by omega), if_pos kd]
    rw [E s 0, E s 0, ← hg, if_neg (show ¬ e ≤ a by omega), if_neg (show ¬ e' ≤ a by omega)]
    by_cases c : f.n < ((s.getD a 0).toNat : Int)
    · rw [if_pos c, if_pos c]
      exact fun _ => ⟨fun q => by simp at q, fun _ _ => rfl⟩
    · rw [if_neg c, if_neg c]
      exact Pos.take h he he'
  · have E : ∀ (w : List UInt8) (x : Nat) (A B C D F G : Pl), (if f.kind = 1 then A else if f.kind = 2 then B else if f.kind = 3 then C else if f.kind = 4 then D else if f.kind = 5 then F else G) = D := fun w x A B C D F G => by
      rw [if_neg (by omega), if_neg (by omega), if_neg (by omega), if_pos kd]
    rw [E s 0, E s 0, ← hg, if_neg (show ¬ e ≤ a by omega), if_neg (show ¬ e' ≤ a by omega)]
    by_cases c : ((s.getD a 0).toNat : Int) < f.low ∨ f.high < (s.getD a 0).toNat
    · rw [if_pos c]
      exact fun _ => ⟨fun q => by simp at q, fun _ _ => rfl⟩
    · rw [if_neg c]
      exact fun _ => ⟨fun _ => rfl, fun q => by simp at q⟩
  · have E : ∀ (w : List UInt8) (x : Nat) (A B C D F G : Pl), (if f.kind = 1 then A else if f.kind = 2 then B else if f.kind = 3 then C else if f.kind = 4 then D else if f.kind = 5 then F else G) = G := fun w x A B C D F G => by
      rw [if_neg (by omega), if_neg (by omega), if_neg (by omega), if_neg (by omega), if_neg (by omega)]
    rw [E s 0, E s 0]
    by_cases c1 : ((e - a : Nat) : Int) < f.low
    · rw [if_pos c1]; exact Pos.bad (by dsimp only; omega)
    rw [if_neg c1]
    by_cases c2 : f.high < ((e - a : Nat) : Int)
    · rw [if_pos ⟨c2, rfl⟩]
      intro hp
      refine ⟨fun q => by simp at q, fun _ q => ?_⟩
      have q : a + f.high.toNat = m := q
      rw [if_neg (by omega), if_pos ⟨by omega, rfl⟩]
    · rw [if_neg (by rintro ⟨q, _⟩; exact c2 q)]
      intro hp
      exfalso
      unfold takeP at hp
      rw [show min (e - a) f.high.toNat = e - a by omega, if_neg (by omega)] at hp
      dsimp only at hp; omega
theorem readL_pos {rec rec' : Int → Nat → Nat → Pl} {t : List Fm} {s u : List UInt8} {e e' m : Nat} : ∀ {fs : List Fd} {acc : List V} {a : Nat}, a ≤ e →
    (∀ j, j < fs.length → (fs.getD j default).kind = 5 → ∀ b c, b ≤ c → b ≤ (rec (fs.getD j default).n b c).p ∧ (rec (fs.getD j default).n b c).p ≤ c) →
    (∀ j, j < fs.length → ∀ a, a ≤ e → Pos m (fldP false rec t (fs.getD j default) s a e false) (fldP false rec' t (fs.getD j default) u a e' false)) →
    Pos m (readL false rec t s e false fs acc a) (readL false rec' t u e' false fs acc a)
  | [], acc, a, ha, _, _ => fun _ => ⟨fun _ => rfl, fun q => by simp [readL] at q⟩
  | f :: fs, acc, a, ha, hr, hF => by
    have h0 := hF 0 (by simp) a ha
    simp only [List.getD_cons_zero] at h0
    have hle := fldP_le (k := false) (t := t) (s := s) (pre := false) ha fun h5 b c hbc => by have := hr 0 (by simp) (by simpa using h5) b c hbc; simpa using this
    have hr' : ∀ j, j < fs.length → (fs.getD j default).kind = 5 → ∀ b c, b ≤ c → b ≤ (rec (fs.getD j default).n b c).p ∧ (rec (fs.getD j default).n b c).p ≤ c := fun j hj h5 b c hbc => by
      have := hr (j + 1) (by simpa using hj) (by simpa using h5) b c hbc; simpa using this
    have hrl := readL_le (k := false) (rec := rec) (t := t) (s := s) (pre := false) (fs := fs) (vs := acc ++ [(fldP false rec t f s a e false).v]) hle.2 hr'
    have ih := readL_pos (m := m) (rec := rec) (rec' := rec') (t := t) (s := s) (u := u) (e := e) (e' := e') (fs := fs) (acc := acc ++ [(fldP false rec t f s a e false).v]) (a := (fldP false rec t f s a e false).p) hle.2 hr' fun j hj a ha => by
      have := hF (j + 1) (by simpa using hj) a ha; simpa using this
    intro hp
    rw [readL] at hp ⊢
    by_cases c : (fldP false rec t f s a e false).ok = true
    · rw [if_pos c] at hp ⊢
      have h1 := (h0 (by omega)).1 c
      rw [readL, h1, if_pos c]
      exact ih hp
    · rw [if_neg c] at hp ⊢
      have c' : (fldP false rec t f s a e false).ok = false := by simpa using c
      refine ⟨fun q => by simp at q, fun _ q => ?_⟩
      have h2 := (h0 hp).2 c' q
      rw [readL, if_neg (by rw [h2]; simp)]
theorem nest_pos {t : List Fm} {n : Int} {s u : List UInt8} {a e e' m : Nat} (hp1 : Plain1 (t.getD n.toNat default).fields) (h : s.take (m + 1) = u.take (m + 1)) (he : m < e) (he' : m < e') (ha : a ≤ e) :
    Pos m (nestP false (read0 false t s) t n s a e) (nestP false (read0 false t u) t n u a e') := by
  by_cases ham : m < a
  · exact Pos.bad (by have := nestP_le (k := false) (rec := read0 false t s) (t := t) (i := n) (s := s) ha fun b c hbc => read0_le hbc hp1; omega)
  have hg := ag_get h (j := a) (by omega)
  unfold nestP
  rw [← hg, if_neg (show ¬ e ≤ a by omega), if_neg (show ¬ e' ≤ a by omega)]
  by_cases c2 : ((s.getD a 0).toNat : Int) < (boundsE t n).1 ∨ (boundsE t n).2.1 < (s.getD a 0).toNat
  · rw [if_pos c2, if_pos c2]
    exact fun _ => ⟨fun q => by simp at q, fun _ _ => rfl⟩
  rw [if_neg c2, if_neg c2]
  by_cases c3 : e < a + 1 + (s.getD a 0).toNat
  · rw [if_pos c3]; exact Pos.bad he
  rw [if_neg c3]
  have hle := read0_le (k := false) (t := t) (s := s) (i := n) (a := a + 1) (e := a + 1 + (s.getD a 0).toNat) (by omega) hp1
  generalize hst : a + 1 + (s.getD a 0).toNat = st at *
  have hin : m < st → Pos m (read0 false t s n (a + 1) st) (read0 false t u n (a + 1) st) := fun q =>
    readL_pos (by omega) (fun j hj h5 => absurd h5 (hp1.ok j hj).2.1) fun j hj a ha => fld_pos (hp1.ok j hj).1 (hp1.ok j hj).2.1 h q q ha
  have hcg : st ≤ m + 1 → read0 false t s n (a + 1) st = read0 false t u n (a + 1) st := fun q => read0_cg (ag_le h q) fun j hj => (hp1.ok j hj).2.1
  by_cases c4 : (read0 false t s n (a + 1) st).ok = true ∧ (read0 false t s n (a + 1) st).p < st
  · rw [if_pos c4]
    intro hp
    have hp : (read0 false t s n (a + 1) st).p ≤ m := hp
    refine ⟨fun q => by simp at q, fun _ q => ?_⟩
    have q : (read0 false t s n (a + 1) st).p = m := q
    have heq := (hin (by omega) hp).1 c4.1
    by_cases c5 : e' < st
    · rw [if_pos c5]
    · rw [if_neg c5, heq, if_pos c4]
  · rw [if_neg c4]
    intro hp
    refine ⟨fun q => ?_, fun q1 q2 => ?_⟩
    · have hpe : (read0 false t s n (a + 1) st).p = st := by
        have : ¬ (read0 false t s n (a + 1) st).p < st := fun z => c4 ⟨q, z⟩
        omega
      rw [if_neg (by omega), ← hcg (by omega), if_neg c4]
    · by_cases c5 : e' < st
      · rw [if_pos c5]
      · rw [if_neg c5]
        have hno : (read0 false t u n (a + 1) st).ok = false := by
          by_cases c6 : m < st
          · exact (hin c6 hp).2 q1 q2
          · rw [← hcg (by omega)]; exact q1
        rw [if_neg (by rw [hno]; simp)]
        exact hno
theorem readT_pos {t : List Fm} {i : Int} {s u : List UInt8} {e e' m : Nat} (hf : Fds t (t.getD i.toNat default).fields) (h : s.take (m + 1) = u.take (m + 1)) (he : m < e) (he' : m < e') :
    Pos m (readT false t s false i 0 e) (readT false t u false i 0 e') :=
  readL_pos (by omega) (fun j hj h5 b c hbc => read0_le hbc (hf.nest j hj h5).2) fun j hj a ha => by
    by_cases h5 : ((t.getD i.toNat default).fields.getD j default).kind = 5
    · have hfe : ∀ w e, fldP false (read0 false t w) t ((t.getD i.toNat default).fields.getD j default) w a e false = nestP false (read0 false t w) t ((t.getD i.toNat default).fields.getD j default).n w a e := fun w e => by
        rw [fldP, if_neg (by omega), if_neg (by omega), if_neg (by omega), if_neg (by omega), if_pos h5]
      rw [hfe, hfe]
      exact nest_pos (hf.nest j hj h5).2 h he he' ha
    · exact fld_pos (hf.ok j hj) h5 h he he' ha
/-- Where reading fails. -/
theorem dec_pos {t : List Fm} {i : Int} {s : List UInt8} (he : errE t i = 0) (h : (decE t i s).2.2 ≠ 0) (hat : (decE t i s).2.1 < (s.length : Int)) :
    (decE t i s).2.2 = 2 ∧ ∃ m : Nat, (decE t i s).2.1 = (m : Int) ∧ ∀ other, (decE t i (s.take (m + 1) ++ other)).2.2 = 2 := by
  obtain ⟨hi, hf⟩ := errE_fds he
  have hd : ∀ w, decE t i w = if (readT false t w false i 0 w.length).ok = false ∨ (readT false t w false i 0 w.length).p < w.length then (v0, ((readT false t w false i 0 w.length).p : Int), (2 : Int)) else ((readT false t w false i 0 w.length).v, (0 : Int), (0 : Int)) := fun w => by
    rw [decE, if_neg (by omega)]
  have hd0 := hd s
  by_cases c : (readT false t s false i 0 s.length).ok = false ∨ (readT false t s false i 0 s.length).p < s.length
  · rw [if_pos c] at hd0
    rw [hd0] at hat ⊢
    have hat : ((readT false t s false i 0 s.length).p : Int) < s.length := hat
    refine ⟨rfl, _, rfl, fun other => ?_⟩
    have hlen : (s.take ((readT false t s false i 0 s.length).p + 1)).length = (readT false t s false i 0 s.length).p + 1 := by rw [List.length_take]; omega
    have hag : s.take ((readT false t s false i 0 s.length).p + 1) = (s.take ((readT false t s false i 0 s.length).p + 1) ++ other).take ((readT false t s false i 0 s.length).p + 1) := by
      rw [List.take_append_of_le_length (by omega), List.take_take, Nat.min_self]
    have hl2 : (readT false t s false i 0 s.length).p < (s.take ((readT false t s false i 0 s.length).p + 1) ++ other).length := by rw [List.length_append]; omega
    obtain ⟨i1, i2⟩ := readT_pos hf hag (by omega : (readT false t s false i 0 s.length).p < s.length) hl2 (Nat.le_refl _)
    have := hd (s.take ((readT false t s false i 0 s.length).p + 1) ++ other)
    rw [this, if_pos]
    cases hok : (readT false t s false i 0 s.length).ok with
    | true => right; rw [i1 hok]; exact hl2
    | false => left; exact i2 hok rfl
  · rw [if_neg c] at hd0
    rw [hd0] at h
    exact absurd rfl h
end Go.Proofs.Ytgjclggjkhapfaa
/- Contracts: the law CodecPosition. -/
set_option linter.unusedVariables false
set_option linter.unusedSimpArgs false
namespace Go.Proofs.Ytgjclggjkhapfaa
open Go Go.Abs
theorem CodecPosition_spec (d : List (List Dr)) (s other : List UInt8) : Ctr sys 5 [xdd d, xs s, xs other] [] (xb true) none [] := by
  have hdl := ddR_len d
  obtain ⟨hv, hml⟩ := made_valid d
  have hrl := Fm.rows_len (madeE d)
  refine spec_intro Try.func5 rfl rfl rfl rfl rfl rfl ?_
  refine awp_seq (awp_region ?_)
  refine al_pure rfl rfl rfl (pure_assign rfl gU) ?_
  refine al_nil ?_
  refine awp_seq ?_
  refine awp_seq (awp_region ?_)
  refine al_call rfl rfl rfl rfl rfl rfl gU gU (awake_spec) rfl ?_
  refine al_pure rfl rfl rfl (pure_not rfl gU) ?_
  refine al_pure rfl rfl rfl (pure_move rfl gU) ?_
  refine al_pure rfl rfl rfl (pure_move rfl gU) ?_
  refine al_pure rfl rfl rfl (pure_lenS rfl (fun hh => hh) (Try.underlying9)) ?_
  refine al_pure rfl rfl rfl (pure_cmp rfl rfl (fun hh => hh) gU rfl) ?_
  refine al_pure rfl rfl rfl (pure_or rfl rfl gU (fun _ hi => gP rfl hi)) ?_
  refine al_pure rfl rfl rfl (pure_move rfl gU) ?_
  refine al_pure rfl rfl rfl (pure_move rfl gU) ?_
  refine al_pure rfl rfl rfl (pure_lenS rfl (fun hh => hh) (Try.underlying9)) ?_
  refine al_pure rfl rfl rfl (pure_cmp rfl rfl (fun hh => hh) gU rfl) ?_
  refine al_sub (s := { t := [(0, _, _), (1, _, _), (2, _, _), (22, _, _), (25, _, _)], bx := [], ow := [] }) (sub_mk (⟨sx rfl, ⟨sx rfl, ⟨sx rfl, ⟨sx rfl, ⟨sx rfl, trivial⟩⟩⟩⟩⟩) trivial trivial) ?_
  refine al_pure rfl rfl rfl (pure_or rfl rfl gU (fun _ hi => gP rfl hi)) ?_
  refine al_pure rfl rfl rfl (pure_move rfl gU) ?_
  refine al_pure rfl rfl rfl (pure_move rfl gU) ?_
  refine al_pure rfl rfl rfl (pure_lenSl rfl (fun hh => hh) rfl rfl) ?_
  refine al_pure rfl rfl rfl (pure_cmp rfl rfl (fun hh => hh) gU rfl) ?_
  refine al_pure rfl rfl rfl (pure_or rfl rfl gU (fun _ hi => gP rfl hi)) ?_
  refine al_nil ?_
  refine awp_sub (s := { t := [(0, _, _), (1, _, _), (2, _, _), (31, _, _)], bx := [], ow := [] }) (sub_mk (⟨sx rfl, ⟨sx rfl, ⟨sx rfl, ⟨sx rfl, trivial⟩⟩⟩⟩) trivial trivial) ?_
  refine awp_cond rfl (fun hc => ?_) (fun hc => ?_)
  · refine awp_seq (awp_region ?_)
    refine al_call rfl rfl rfl rfl rfl rfl gU gU (awake_spec) rfl ?_
    refine al_pure rfl rfl rfl (pure_assign rfl gU) ?_
    refine al_nil ?_
    refine awp_ret ?_
    repeat (first | refine tR ?_ | refine bR ?_)
    refine ret_ok rfl ?_ trivial
    rfl
  · try simp only [nn, Fd.rows_len, Fm.rows_len, V.rows_len, ddR_len] at hc
    have hs : s.length ≤ 100 ∧ other.length ≤ 100 := by
      simp at hc
      omega
    refine awp_skip ?_
    refine awp_seq (awp_region ?_)
    refine al_pure rfl rfl rfl (pure_move rfl gU) ?_
    refine al_call rfl rfl rfl rfl rfl rfl gU gU (Made_spec _) rfl ?_
    refine al_pure rfl rfl rfl (pure_assign rfl gU) ?_
    refine al_nil ?_
    refine awp_seq ?_
    refine awp_seq (awp_region ?_)
    refine al_pure rfl rfl rfl (pure_move rfl gU) ?_
    refine al_lenSl rfl rfl rfl rfl rfl gU rfl rfl ?_ (fun hh => by simp at hh); intro hlen
    refine al_pure rfl rfl rfl (pure_move rfl gU) ?_
    refine al_nil ?_
    refine awp_sub (s := { t := [(1, _, _), (2, _, _), (7, _, _), (36, _, _), (37, _, _)], bx := [], ow := [] }) (sub_mk (⟨sx rfl, ⟨sx rfl, ⟨sx rfl, ⟨sx rfl, ⟨sx rfl, trivial⟩⟩⟩⟩⟩) trivial trivial) ?_
    refine awp_block ?_
    refine awp_for (ι := Nat) { t := [(1, _, _), (2, _, _), (7, _, _), (36, _, _)], bx := [], ow := [] } (fun i => [(37, true, xi (i : Int))]) (fun i => []) (fun i => i ≤ (madeE d).length) (fun i => (madeE d).length - i) (0) (by simp) (sub_mk (⟨sx rfl, ⟨sx rfl, ⟨sx rfl, ⟨sx rfl, ⟨sx rfl, trivial⟩⟩⟩⟩⟩) trivial trivial) ?_
    intro i hok
    dsimp only [List.cons_append, List.nil_append]
    refine awp_seq (awp_region ?_)
    refine al_pure rfl rfl rfl (pure_cmp rfl rfl gU gU rfl) ?_
    refine al_nil ?_
    refine awp_seq ?_
    refine awp_cond rfl (fun hca => ?_) (fun hca => ?_)
    · try simp only [nn, Fd.rows_len, Fm.rows_len, V.rows_len, ddR_len] at hca
      have he : errE (madeE d) (i : Int) = 0 := by
        unfold errE
        rw [if_neg (by omega), if_neg (by omega)]
      refine awp_skip ?_
      refine awp_seq ?_
      refine awp_block ?_
      refine awp_seq (awp_region ?_)
      refine al_pure rfl rfl rfl (pure_move rfl gU) ?_
      refine al_pure rfl rfl rfl (pure_assign rfl gU) ?_
      refine al_nil ?_
      refine awp_seq (awp_region ?_)
      refine al_pure rfl rfl rfl (pure_move rfl gU) ?_
      refine al_pure rfl rfl rfl (pure_move rfl gU) ?_
      refine al_pure rfl rfl rfl (pure_move rfl gU) ?_
      refine al_call rfl rfl rfl rfl rfl rfl gU gU (cDecode_spec _ _ s (by omega)) rfl ?_
      refine al_pure rfl rfl rfl (pure_move rfl gU) ?_
      refine al_pure rfl rfl rfl (pure_extract rfl gU rfl) ?_
      refine al_pure rfl rfl rfl (pure_extract rfl gU rfl) ?_
      refine al_pure rfl rfl rfl (pure_extract rfl gU rfl) ?_
      refine al_do rfl (does_alloc rfl rfl rfl) ?_
      refine al_sub (s := { t := [(1, _, _), (2, _, _), (7, _, _), (8, _, _), (9, _, _), (36, _, _), (37, _, _), (45, _, _), (46, _, _), (47, _, _)], bx := [((.l 9), _)], ow := [] }) (sub_mk (⟨sx rfl, ⟨sx rfl, ⟨sx rfl, ⟨sx rfl, ⟨sx rfl, ⟨sx rfl, ⟨sx rfl, ⟨sx rfl, ⟨sx rfl, ⟨sx rfl, trivial⟩⟩⟩⟩⟩⟩⟩⟩⟩⟩) (⟨sx rfl, trivial⟩) trivial) ?_
      refine al_do rfl (does_store rfl rfl rfl rfl rfl rfl rfl) ?_
      refine al_pure rfl rfl rfl (pure_assign rfl gU) ?_
      refine al_pure rfl rfl rfl (pure_assign rfl gU) ?_
      refine al_nil ?_
      refine awp_seq ?_
      refine awp_seq (awp_region ?_)
      refine al_pure rfl rfl rfl (pure_move rfl gU) ?_
      refine al_pure rfl rfl rfl (pure_cmp rfl rfl gU gU rfl) ?_
      refine al_pure rfl rfl rfl (pure_move rfl gU) ?_
      refine al_pure rfl rfl rfl (pure_move rfl gU) ?_
      refine al_pure rfl rfl rfl (pure_move rfl gU) ?_
      refine al_pure rfl rfl rfl (pure_lenS rfl (fun hh => hh) (Try.underlying9)) ?_
      refine al_pure rfl rfl rfl (pure_cmp rfl rfl (fun hh => hh) (fun hh => hh) rfl) ?_
      refine al_pure rfl rfl rfl (pure_or rfl rfl gU (fun _ hi => gP rfl hi)) ?_
      refine al_nil ?_
      refine awp_sub (s := { t := [(1, _, _), (2, _, _), (7, _, _), (8, _, _), (10, _, _), (11, _, _), (36, _, _), (37, _, _), (55, _, _)], bx := [], ow := [] }) (sub_mk (⟨sx rfl, ⟨sx rfl, ⟨sx rfl, ⟨sx rfl, ⟨sx rfl, ⟨sx rfl, ⟨sx rfl, ⟨sx rfl, ⟨sx rfl, trivial⟩⟩⟩⟩⟩⟩⟩⟩⟩) trivial trivial) ?_
      refine awp_cond rfl (fun hcb => ?_) (fun hcb => ?_)
      · refine awp_exit ?_
        repeat (first | refine thenS_exit ?_ | refine blockS_hit ?_ | refine blockS_miss rfl ?_)
        refine awp_region ?_
        refine al_pure rfl rfl rfl (pure_arith rfl rfl gU gU rfl (IntWalk.i64_in _ (by omega))) ?_
        refine al_pure rfl rfl rfl (pure_move rfl gU) ?_
        refine al_nil ?_
        refine ⟨i + 1, ?_, ?_, sub_mk (⟨⟨_, rfl, ?_⟩, ⟨sx rfl, ⟨sx rfl, ⟨sx rfl, ⟨sx rfl, trivial⟩⟩⟩⟩⟩) trivial trivial⟩
        all_goals (first | omega | rfl)
      · try simp only [nn, Fd.rows_len, Fm.rows_len, V.rows_len, ddR_len] at hcb
        obtain ⟨p1, m, p2, p3⟩ := dec_pos (t := madeE d) (i := (i : Int)) (s := s) he hcb.1 (by omega)
        rw [p2] at hcb
        have p4 := p3 other
        refine awp_skip ?_
        refine awp_seq ?_
        refine awp_seq (awp_region ?_)
        refine al_pure rfl rfl rfl (pure_move rfl gU) ?_
        refine al_pure rfl rfl rfl (pure_cmp rfl rfl gU gU rfl) ?_
        refine al_pure rfl rfl rfl (pure_move rfl gU) ?_
        refine al_pure rfl rfl rfl (pure_move rfl gU) ?_
        refine al_pure rfl rfl rfl (pure_cmp rfl rfl (fun hh => hh) gU rfl) ?_
        refine al_pure rfl rfl rfl (pure_or rfl rfl gU (fun _ hi => gP rfl hi)) ?_
        refine al_nil ?_
        refine awp_sub (s := { t := [(1, _, _), (2, _, _), (7, _, _), (8, _, _), (10, _, _), (36, _, _), (37, _, _), (61, _, _)], bx := [], ow := [] }) (sub_mk (⟨sx rfl, ⟨sx rfl, ⟨sx rfl, ⟨sx rfl, ⟨sx rfl, ⟨sx rfl, ⟨sx rfl, ⟨sx rfl, trivial⟩⟩⟩⟩⟩⟩⟩⟩) trivial trivial) ?_
        refine awp_cond rfl (fun hcc => ?_) (fun hcc => ?_)
        · try simp only [nn, Fd.rows_len, Fm.rows_len, V.rows_len, ddR_len] at hcc
          exfalso
          rcases hcc with h | h
          · omega
          · exact h p1
        · skip
          refine awp_skip ?_
          refine awp_seq (awp_region ?_)
          refine al_pure rfl rfl rfl (pure_move rfl gU) ?_
          refine al_pure rfl rfl rfl (pure_move rfl gU) ?_
          refine al_pure rfl rfl rfl (pure_move rfl gU) ?_
          refine al_pure rfl rfl rfl (pure_move rfl gU) ?_
          refine al_pure rfl rfl rfl (pure_arith rfl rfl gU gU rfl (IntWalk.i64_in _ (by omega))) ?_
          refine al_pure rfl rfl rfl (pure_sliceS (h' := (m + 1)) rfl gU Try.underlying9 (fun _ => rfl) (fun _ => ⟨_, _, _, rfl, gU, by first | omega | (simp at hh; omega)⟩) (fun hh => by first | omega | (simp at hh; omega)) (fun hh => by first | omega | (simp at hh; omega))) ?_
          refine al_pure rfl rfl rfl (pure_move rfl gU) ?_
          refine al_pure rfl rfl rfl (pure_concat rfl rfl gU gU (by simp; omega)) ?_
          refine al_call rfl rfl rfl rfl rfl rfl gU gU (cDecode_spec _ _ _ (by simp; omega)) rfl ?_
          refine al_pure rfl rfl rfl (pure_move rfl gU) ?_
          refine al_pure rfl rfl rfl (pure_extract rfl gU rfl) ?_
          refine al_pure rfl rfl rfl (pure_extract rfl gU rfl) ?_
          refine al_sub (s := { t := [(1, _, _), (2, _, _), (7, _, _), (36, _, _), (37, _, _), (62, _, _), (72, _, _), (73, _, _)], bx := [], ow := [] }) (sub_mk (⟨sx rfl, ⟨sx rfl, ⟨sx rfl, ⟨sx rfl, ⟨sx rfl, ⟨sx rfl, ⟨sx rfl, ⟨sx rfl, trivial⟩⟩⟩⟩⟩⟩⟩⟩) trivial trivial) ?_
          refine al_pure rfl rfl rfl (pure_extract rfl gU rfl) ?_
          refine al_do rfl (does_alloc rfl rfl rfl) ?_
          refine al_do rfl (does_store rfl rfl rfl rfl rfl rfl rfl) ?_
          refine al_pure rfl rfl rfl (pure_assign rfl gU) ?_
          refine al_pure rfl rfl rfl (pure_assign rfl gU) ?_
          refine al_nil ?_
          refine awp_seq (awp_region ?_)
          refine al_pure rfl rfl rfl (pure_move rfl gU) ?_
          refine al_pure rfl rfl rfl (pure_cmp rfl rfl gU gU rfl) ?_
          refine al_nil ?_
          refine awp_sub (s := { t := [(1, _, _), (2, _, _), (7, _, _), (36, _, _), (37, _, _), (76, _, _)], bx := [], ow := [] }) (sub_mk (⟨sx rfl, ⟨sx rfl, ⟨sx rfl, ⟨sx rfl, ⟨sx rfl, ⟨sx rfl, trivial⟩⟩⟩⟩⟩⟩) trivial trivial) ?_
          refine awp_cond rfl (fun hce => ?_) (fun hce => ?_)
          · try simp only [nn, Fd.rows_len, Fm.rows_len, V.rows_len, ddR_len] at hce
            exact absurd p4 hce
          · refine awp_skip ?_
            refine awp_region ?_
            refine al_pure rfl rfl rfl (pure_arith rfl rfl gU gU rfl (IntWalk.i64_in _ (by omega))) ?_
            refine al_pure rfl rfl rfl (pure_move rfl gU) ?_
            refine al_nil ?_
            refine ⟨i + 1, ?_, ?_, sub_mk (⟨⟨_, rfl, ?_⟩, ⟨sx rfl, ⟨sx rfl, ⟨sx rfl, ⟨sx rfl, trivial⟩⟩⟩⟩⟩) trivial trivial⟩
            · omega
            · omega
            · rfl
    · refine awp_exit ?_
      repeat (first | refine thenS_exit ?_ | refine blockS_hit ?_ | refine blockS_miss rfl ?_)
      refine awp_seq (awp_region ?_)
      refine al_pure rfl rfl rfl (pure_assign rfl gU) ?_
      refine al_nil ?_
      refine awp_ret ?_
      repeat (first | refine tR ?_ | refine bR ?_)
      refine ret_ok rfl ?_ trivial
      rfl
end Go.Proofs.Ytgjclggjkhapfaa
/- From readings to lists of drafts. -/
set_option linter.unusedVariables false
set_option linter.unusedSimpArgs false
namespace Go.Proofs.Ytgjclggjkhapfaa
open Go Go.Abs
theorem plainD : closedB Try.prog [5, 9, 76, 73, 39] = true := by kernel_rfl
theorem cellsDr : Try.prog.cellsOf 76 = 3 := by kernel_rfl
theorem cellsDl : Try.prog.cellsOf 73 = 1 := by kernel_rfl
theorem byteD_of {n : Nat} {cs : List C} (h : hasTy Try.prog n 5 cs) : ∃ b : UInt8, cs = [.i .u8 (b.toNat : Int)] := by
  cases n with
  | zero => exact h.elim
  | succ n =>
    simp only [hasTy, Try.underlying5] at h
    obtain ⟨m, rfl, hm⟩ := h
    have hb : 0 ≤ m ∧ m < 256 := by
      have h1 : IntKind.u8.min = 0 := by kernel_rfl
      have h2 : IntKind.u8.max = 255 := by kernel_rfl
      simp only [Lit.wf, h1, h2, Bool.and_eq_true, decide_eq_true_eq] at hm
      omega
    exact ⟨UInt8.ofNat m.toNat, by rw [UInt8.toNat_ofNat']; congr 2; omega⟩
theorem draft_of {n : Nat} {cs : List C} (h : hasTy Try.prog n 76 cs) : ∃ d : Dr, cs = d.cells := by
  cases n with
  | zero => exact h.elim
  | succ n =>
    simp only [hasTy, Try.underlying76, hasFs] at h
    obtain ⟨a, b, rfl, h1, c, d, rfl, h2, e, f, rfl, h3, rfl⟩ := h
    obtain ⟨m1, rfl⟩ := byteD_of h1
    obtain ⟨m2, rfl⟩ := byteD_of h2
    obtain ⟨m3, rfl⟩ := byteD_of h3
    exact ⟨⟨m1, m2, m3⟩, rfl⟩
theorem drafts_of {n : Nat} {cs : List C} (h : hasTy Try.prog n 73 cs) : ∃ l : List Dr, cs = [.sl 3 (Dr.rows l)] := by
  cases n with
  | zero => exact h.elim
  | succ n =>
    simp only [hasTy, Try.underlying73, cellsDr] at h
    obtain ⟨es, h1, h5⟩ := h
    obtain ⟨ts, rfl⟩ := list_of (f := Dr.cells) (fun row hr => draft_of hr) es h5
    exact ⟨ts, h1⟩
theorem dd_of {n : Nat} {c : C} (h : hasTy Try.prog n 39 [c]) : ∃ d : List (List Dr), c = .sl 1 (ddR d) := by
  cases n with
  | zero => exact h.elim
  | succ n =>
    simp only [hasTy, Try.underlying39, cellsDl] at h
    obtain ⟨es, h1, h5⟩ := h
    obtain ⟨ts, rfl⟩ := list_of (f := fun l => [C.sl 3 (Dr.rows l)]) (fun row hr => drafts_of hr) es h5
    exact ⟨ts, by simp only [List.cons.injEq, and_true] at h1; exact h1⟩
end Go.Proofs.Ytgjclggjkhapfaa
/- The given statement CodecPosition: for every input the law returns true, and the input reads as before. No condition. -/
namespace Go.Proofs.Ytgjclggjkhapfaa.codecPositionDone
open Go Go.Abs Go.Proofs Go.Proofs.Ytgjclggjkhapfaa
open Go.ChangeShapes Go.WideShapes Go.ChangeAt Go.RowKit
set_option linter.unusedVariables false
set_option linter.unusedSimpArgs false
set_option maxRecDepth 100000 in
theorem lifted (os : Os) (started : os.Started) (H : Type) (enc : TypeId × Value → H) :
    ReturnsInHanded {} Try.checked os 5 .any (Rows.codecPositionSpec.pre6 enc Try.prog Try.f5 Rows.codecPositionRow.domain false) (Rows.codecPositionSpec.post enc Try.prog Try.f5 false true false false) := by
  refine returnsInHanded_of_change (C := Try.checked) own started (by kernel_rfl) Try.func5
    (ChangeSpec.witness6 (enc := enc) (C := Try.checked) false ⟨#[], #[.slice none 0 0, .string ByteArray.empty, .string ByteArray.empty], []⟩ 8 (by kernel_rfl) (by kernel_rfl) (by kernel_rfl) (by kernel_rfl)) ?_
  intro W base args ds gs before hval0 hW hcnd _
  have hval : ∀ (j : Nat) t v, Try.f5.params[j]? = some t → args[j]? = some v → Value.okWide Try.prog W .any base t v := hval0
  have hW' := hW
  obtain ⟨p, q, hA0, hV, rfl, hfz, hnd⟩ := hW
  have hA : DataW.TrodAll enc Try.prog W 0 (fun _ => true) true Try.f5.params.toList args.toList ds p := hA0
  rw [Try.params5] at hA hval
  obtain ⟨v0, vs0, d0, ds0, p0, q0, hargs, rfl, rfl, h0, r0⟩ := trodAll_cons hA
  obtain ⟨v1, vs1, d1, ds1, p1, q1, rfl, rfl, rfl, h1, r1⟩ := trodAll_cons r0
  obtain ⟨v2, vs2, d2, ds2, p2, q2, rfl, rfl, rfl, h2, r2⟩ := trodAll_cons r1
  obtain ⟨rfl, rfl, rfl⟩ := trodAll_nil r2
  obtain rfl : args = #[v0, v1, v2] := by cases args; simp_all
  obtain ⟨rfl, rfl⟩ := trodVars_none hV
  have lt0 : ∀ x ∈ p0, x.block < W.heap.size := by obtain ⟨m, hm⟩ := h0; exact DataW.trod_lt m _ _ _ hm
  have lt1 : ∀ x ∈ p1, x.block < W.heap.size := by obtain ⟨m, hm⟩ := h1; exact DataW.trod_lt m _ _ _ hm
  have lt2 : ∀ x ∈ p2, x.block < W.heap.size := by obtain ⟨m, hm⟩ := h2; exact DataW.trod_lt m _ _ _ hm
  obtain ⟨n0, c0, ht0, hx0⟩ := arg_one plainD (by decide) Try.underlying39 rfl (hval 0 39 v0 rfl rfl) h0
  obtain ⟨x0_0, rfl⟩ := dd_of ht0
  obtain ⟨n1, c1, ht1, hx1⟩ := arg_one plainD (by decide) Try.underlying9 rfl (hval 1 9 v1 rfl rfl) h1
  obtain ⟨x1_0, rfl⟩ := str1_of ht1
  obtain ⟨n2, c2, ht2, hx2⟩ := arg_one plainD (by decide) Try.underlying9 rfl (hval 2 9 v2 rfl rfl) h2
  obtain ⟨x2_0, rfl⟩ := str1_of ht2
  refine (calls_true (CodecPosition_spec x0_0 x1_0 x2_0) (W := W) (vs := [v0, v1, v2]) ⟨hx0, hx1, hx2, trivial⟩).mono fun e W' ⟨he, bel⟩ => ?_
  subst he
  exact ⟨_, rfl, _, _, _, [], _, [], hW', trodAll_mk1 (shut_bool Try.underlying4 _),
    (trodAll_cons_mk (Below.trod laidOut (by kernel_rfl) (of_decide_eq_true (by kernel_rfl)) h0 bel lt0) (trodAll_cons_mk (Below.trod laidOut (by kernel_rfl) (of_decide_eq_true (by kernel_rfl)) h1 bel lt1) (trodAll_cons_mk (Below.trod laidOut (by kernel_rfl) (of_decide_eq_true (by kernel_rfl)) h2 bel lt2) trodAll_mk0))), rfl, bel.frame _, fun h => by cases h⟩
theorem over : Rows.codecPositionRow.holds Try.pinned (OpenSpec.ofChange Rows.codecPositionSpec) :=
  OpenClaim.holds_of_wide 5 Try.f5 rfl rfl rfl rfl rfl rfl rfl ⟨rfl, rfl, rfl, rfl, rfl⟩ rfl rfl rfl rfl rfl (by kernel_rfl) Try.func5 (by kernel_rfl)
    (of_decide_eq_true (by kernel_rfl)) (by unfold Func.isWrapper; first | (rw [if_pos (by decide +kernel)]; kernel_rfl) | (rw [if_neg (by decide +kernel)]; exact ⟨rfl, rfl⟩))
    (fun os started H enc _ => lifted os started H enc)
theorem proved : Rows.CodecPositionSaid := over
#print axioms proved
end Go.Proofs.Ytgjclggjkhapfaa.codecPositionDone
