/- Contracts: the entries that contain an atom with a name. -/
import Derived.Test.YtginljdgdllhfaaEq
namespace Go.Proofs.Ytginljdgdllhfaa
open Go Go.Abs
namespace T
mutual
def con : T → List UInt8 → Bool
  | mk k n _ ks, nm => (k == 2 && n == nm) || cons ks nm
def cons : List T → List UInt8 → Bool
  | [], _ => false
  | t :: ts, nm => con t nm || cons ts nm
end
theorem con_eq (t : T) (nm : List UInt8) : t.con nm = ((t.kind == 2 && t.name == nm) || cons t.kids nm) := by cases t; rw [con]; rfl
theorem cons_any : ∀ (l : List T) (nm : List UInt8), cons l nm = l.any fun t => t.con nm
  | [], nm => by rw [cons]; rfl
  | t :: l, nm => by rw [cons, cons_any l nm]; rfl
mutual
def all : T → List T
  | mk k n s ks => mk k n s ks :: alls ks
def alls : List T → List T
  | [] => []
  | t :: ts => all t ++ alls ts
end
theorem all_eq (t : T) : t.all = t :: alls t.kids := by cases t; rw [all]; rfl
mutual
theorem all_len : ∀ t : T, t.all.length = t.size
  | mk k n s ks => by rw [all, size, List.length_cons, alls_len ks]; omega
theorem alls_len : ∀ l : List T, (alls l).length = sizes l
  | [] => by rw [alls, sizes]; rfl
  | t :: ts => by rw [alls, sizes, List.length_append, all_len t, alls_len ts]
end
mutual
theorem all_size : ∀ (t x : T), x ∈ t.all → x.size ≤ t.size
  | mk k n s ks, x, h => by
    rw [all] at h
    rw [size]
    rcases List.mem_cons.1 h with h | h
    · rw [h, size]; omega
    · have := alls_size ks x h; omega
theorem alls_size : ∀ (l : List T) (x : T), x ∈ alls l → x.size ≤ sizes l
  | [], x, h => by rw [alls] at h; simp at h
  | t :: ts, x, h => by
    rw [alls] at h
    rw [sizes]
    rcases List.mem_append.1 h with h | h
    · have := all_size t x h; omega
    · have := alls_size ts x h; omega
end
theorem alls_take {l : List T} {k : Nat} {x : T} (h : l[k]? = some x) : alls (l.take (k + 1)) = alls (l.take k) ++ x.all := by
  induction l generalizing k with
  | nil => simp at h
  | cons a l ih =>
    cases k with
    | zero => simp at h; subst h; simp [alls]
    | succ k => simp only [List.take_succ_cons, alls]; rw [ih (by simpa using h), List.append_assoc]
mutual
theorem con_iff : ∀ (t : T) (nm : List UInt8), t.con nm = t.all.any fun x => x.kind == 2 && x.name == nm
  | mk k n s ks, nm => by
    rw [con, all, List.any_cons, cons_iff ks nm]; rfl
theorem cons_iff : ∀ (l : List T) (nm : List UInt8), cons l nm = (alls l).any fun x => x.kind == 2 && x.name == nm
  | [], nm => by rw [cons, alls]; rfl
  | t :: ts, nm => by rw [cons, alls, List.any_append, con_iff t nm, cons_iff ts nm]
end
end T
def addG : Bool → List T → T → List T
  | d, [], t => if d = true then [] else [t]
  | d, x :: xs, t => if d = false ∧ t.cmp x ≤ 0 then (if t.cmp x < 0 then t :: x :: addG true xs t else x :: addG true xs t) else x :: addG d xs t
theorem addG_len : ∀ (d : Bool) (l : List T) (t : T), (addG d l t).length ≤ l.length + 1
  | d, [], t => by rw [addG]; split <;> simp
  | d, x :: xs, t => by
    have h1 := addG_len true xs t
    have h2 := addG_len d xs t
    have h3 : (addG true xs t).length ≤ xs.length + 1 := h1
    have h4 : ∀ xs : List T, (addG true xs t).length = xs.length := by
      intro xs
      induction xs with
      | nil => rfl
      | cons y ys ih => rw [addG, if_neg (by simp)]; simp [ih]
    rw [addG]
    split
    · split <;> simp [h4]
    · simp only [List.length_cons]; omega
theorem addG_true (t : T) : ∀ l : List T, addG true l t = l
  | [] => rfl
  | x :: xs => by rw [addG, if_neg (by simp), addG_true t xs]
theorem addG_mem (t : T) : ∀ (l : List T) (x : T), x ∈ addG false l t ↔ x ∈ l ∨ x = t
  | [], x => by rw [addG]; simp
  | y :: ys, x => by
    rw [addG]
    split
    · rename_i h
      split
      · rw [addG_true]; simp only [List.mem_cons]; constructor
        · rintro (h | h | h) <;> simp [h]
        · rintro ((h | h) | h) <;> simp [h]
      · rename_i h2
        have : t = y := T.cmp_zero _ _ (by omega)
        subst this
        rw [addG_true]; simp only [List.mem_cons]; constructor
        · rintro (h | h) <;> simp [h]
        · rintro ((h | h) | h) <;> simp [h]
    · simp only [List.mem_cons, addG_mem t ys x, or_assoc]
def setT : List T → List T → List T
  | out, [] => out
  | out, x :: xs => setT (addG false out x) xs
theorem setT_mem : ∀ (l out : List T) (x : T), x ∈ setT out l ↔ x ∈ out ∨ x ∈ l
  | [], out, x => by simp [setT]
  | y :: ys, out, x => by
    rw [setT, setT_mem ys, addG_mem, List.mem_cons, or_assoc]
theorem setT_len : ∀ (l out : List T), (setT out l).length ≤ out.length + l.length
  | [], out => by simp [setT]
  | y :: ys, out => by
    have h1 := setT_len ys (addG false out y)
    have h2 := addG_len false out y
    rw [setT, List.length_cons]; omega
def kindT (t : T) (k : Int) : List T := setT [] (t.all.filter fun x => x.kind == k)
abbrev nameIn (l : List T) (nm : List UInt8) : Bool := l.any fun x => x.name == nm
theorem kindT_name (t : T) (nm : List UInt8) : nameIn (kindT t 2) nm = t.con nm := by
  rw [T.con_iff, Bool.eq_iff_iff]
  simp only [nameIn, kindT, List.any_eq_true, setT_mem, List.mem_filter, List.not_mem_nil, false_or, Bool.and_eq_true]
  constructor
  · rintro ⟨x, ⟨h1, h2⟩, h3⟩; exact ⟨x, h1, h2, h3⟩
  · rintro ⟨x, h1, h2, h3⟩; exact ⟨x, ⟨h1, h2⟩, h3⟩
theorem drop_get {α : Type} {l : List α} {k : Nat} {x : α} (h : l[k]? = some x) : l.drop k = x :: l.drop (k + 1) := by
  obtain ⟨hk, rfl⟩ := List.getElem?_eq_some_iff.1 h
  rw [List.drop_eq_getElem_cons hk]
def conS (t : T) (nm : List UInt8) (k : Nat) : St := { t := [(1, true, xs nm), (17, true, xl t.kids), (18, true, xi t.kids.length), (19, true, xi k)], bx := [], ow := [] }
theorem contains_spec : ∀ (n : Nat) (t : T) (nm : List UInt8), t.size ≤ n → n ≤ 1000000 → Ctr sys 40 [xt t, xs nm] [] (xb (t.con nm)) none [] := by
  intro n
  induction n with
  | zero => intro t _ h; have := t.size_pos; omega
  | succ n ih =>
    intro t nm ht hn
    have hls := T.len_sizes t.kids
    have hse := t.size_eq
    refine spec_intro Try.func40 rfl rfl rfl rfl rfl rfl ?_
    refine awp_seq ?_
    refine awp_region ?_
    refine al_do rfl (does_box rfl rfl rfl rfl) ?_
    refine al_pure rfl rfl rfl (pure_assign rfl (fun _ => rfl)) ?_
    refine al_nil ?_
    refine awp_seq ?_
    refine awp_seq ?_
    refine awp_region ?_
    refine al_pure rfl rfl rfl (pure_fieldPtr rfl (fun _ => rfl) rfl rfl) ?_
    refine al_pure rfl rfl rfl (pure_loadBox rfl (fun _ => rfl) rfl rfl rfl rfl) ?_
    refine al_pure rfl rfl rfl (pure_cmp rfl rfl (fun _ => rfl) (fun _ => rfl) rfl) ?_
    refine al_pure rfl rfl rfl (pure_move rfl (fun _ => rfl)) ?_
    refine al_pure rfl rfl rfl (pure_fieldPtr rfl (fun _ => rfl) rfl rfl) ?_
    refine al_pure rfl rfl rfl (pure_loadBox rfl (fun hh => hh) rfl rfl rfl rfl) ?_
    refine al_pure rfl rfl rfl (pure_move rfl (fun _ => rfl)) ?_
    refine al_pure rfl rfl rfl (pure_cmpS rfl rfl (fun hh => hh) (fun hh => hh) rfl) ?_
    refine al_pure rfl rfl rfl (pure_and rfl rfl (fun _ => rfl) (fun _ hi => gP rfl hi)) ?_
    refine al_nil ?_
    refine awp_sub (s := { t := [(1, _, _), (2, _, _), (4, _, _), (15, _, _)], bx := [((.l 2), _)], ow := [] }) (sub_mk (⟨⟨_, rfl, rfl⟩, ⟨⟨_, rfl, rfl⟩, ⟨⟨_, rfl, rfl⟩, ⟨⟨_, rfl, rfl⟩, trivial⟩⟩⟩⟩) (⟨⟨_, rfl, rfl⟩, trivial⟩) trivial) ?_
    refine awp_cond rfl (fun hc => ?_) (fun hc => ?_)
    · refine awp_seq ?_
      refine awp_region ?_
      refine al_pure rfl rfl rfl (pure_assign rfl (fun _ => rfl)) ?_
      refine al_nil ?_
      refine awp_ret ?_
      repeat (first | refine thenS_ret ?_ | refine blockS_ret ?_)
      refine ret_ok rfl ?_ trivial
      exact xb_eq (by rw [T.con_eq]; simp only [hc, Bool.true_or])
    · refine awp_skip ?_
      refine awp_seq ?_
      refine awp_seq ?_
      refine awp_region ?_
      refine al_pure rfl rfl rfl (pure_fieldPtr rfl (fun _ => rfl) rfl rfl) ?_
      refine al_pure rfl rfl rfl (pure_loadBox rfl (fun _ => rfl) rfl rfl rfl rfl) ?_
      refine al_lenSl rfl rfl rfl rfl rfl (fun _ => rfl) rfl rfl ?_ (fun hh => by simp at hh); intro hlen
      refine al_pure rfl rfl rfl (pure_move rfl (fun _ => rfl)) ?_
      refine al_nil ?_
      refine awp_block ?_
      refine awp_loop (conS t nm) (fun k => k ≤ t.kids.length ∧ T.cons (t.kids.take k) nm = false) (fun k => t.kids.length - k) 0 ⟨Nat.zero_le _, by simp [T.cons]⟩ ?_ ?_
      · refine sub_mk ⟨⟨_, rfl, rfl⟩, ⟨_, rfl, rfl⟩, ⟨_, rfl, by rw [T.rows_len]⟩, ⟨_, rfl, rfl⟩, trivial⟩ trivial trivial
      · rintro k ⟨hk, hz⟩
        refine awp_seq ?_
        refine awp_region ?_
        refine al_pure rfl rfl rfl (pure_cmp rfl rfl (fun _ => rfl) (fun _ => rfl) rfl) ?_
        refine al_nil ?_
        refine awp_seq ?_
        refine awp_cond rfl (fun hc2 => ?_) (fun hc2 => ?_)
        · simp only [decide_eq_true_eq] at hc2
          have hlt : k < t.kids.length := by omega
          obtain ⟨x, hx⟩ : ∃ x, t.kids[k]? = some x := ⟨_, List.getElem?_eq_getElem hlt⟩
          have h3 := T.size_kid hx
          refine awp_skip ?_
          refine awp_seq ?_
          refine awp_block ?_
          refine awp_seq ?_
          refine awp_region ?_
          refine al_pure rfl rfl rfl (pure_indexAddr rfl rfl (fun _ => rfl) (fun _ => rfl) rfl rfl rfl (fun _ => T.rows_get hx)) ?_
          refine al_pure rfl rfl rfl (pure_loadRoRow rfl (fun _ => rfl) rfl rfl rfl rfl) ?_
          refine al_do rfl (does_alloc rfl rfl rfl) ?_
          refine al_do rfl (does_store rfl rfl rfl rfl rfl rfl rfl) ?_
          refine al_nil ?_
          refine awp_seq ?_
          refine awp_region ?_
          refine al_pure rfl rfl rfl (pure_loadBoxRow rfl (fun _ => rfl) rfl rfl rfl rfl rfl) ?_
          refine al_pure rfl rfl rfl (pure_move rfl (fun _ => rfl)) ?_
          refine al_call rfl rfl rfl rfl rfl rfl (fun _ => rfl) (fun _ => rfl) (ih x nm (by omega) (by omega)) rfl ?_
          refine al_nil ?_
          refine awp_cond rfl (fun hc3 => ?_) (fun hc3 => ?_)
          · refine awp_seq ?_
            refine awp_region ?_
            refine al_pure rfl rfl rfl (pure_assign rfl (fun _ => rfl)) ?_
            refine al_nil ?_
            refine awp_ret ?_
            repeat (first | refine thenS_ret ?_ | refine blockS_ret ?_)
            refine ret_ok rfl ?_ trivial
            refine xb_eq ?_
            have : T.cons t.kids nm = true := by
              rw [T.cons_any, List.any_eq_true]
              exact ⟨x, List.mem_of_getElem? hx, hc3⟩
            rw [T.con_eq, this, Bool.or_true]
          · refine awp_skip ?_
            refine awp_region ?_
            refine al_pure rfl rfl rfl (pure_arith rfl rfl (fun _ => rfl) (fun _ => rfl) rfl (IntWalk.i64_in _ (by omega))) ?_
            refine al_pure rfl rfl rfl (pure_move rfl (fun _ => rfl)) ?_
            refine al_nil ?_
            refine ⟨k + 1, ⟨by omega, ?_⟩, by omega, ?_⟩
            · rw [T.take_succ hx, T.cons_any, List.any_append, ← T.cons_any, hz]
              simp [hc3]
            · refine sub_mk ⟨⟨_, rfl, rfl⟩, ⟨_, rfl, rfl⟩, ⟨_, rfl, rfl⟩, ⟨_, rfl, rfl⟩, trivial⟩ trivial trivial
        · refine awp_exit ?_
          repeat (first | refine thenS_exit ?_ | refine blockS_hit ?_ | refine blockS_miss rfl ?_)
          refine awp_seq ?_
          refine awp_region ?_
          refine al_pure rfl rfl rfl (pure_assign rfl (fun _ => rfl)) ?_
          refine al_nil ?_
          refine awp_ret ?_
          repeat (first | refine thenS_ret ?_ | refine blockS_ret ?_)
          refine ret_ok rfl ?_ trivial
          simp only [decide_eq_false_iff_not] at hc2
          have : k = t.kids.length := by omega
          subst this
          rw [List.take_length] at hz
          exact xb_eq (by rw [T.con_eq, hc, hz]; rfl)
end Go.Proofs.Ytginljdgdllhfaa
