/- Elements of slices, lengths with their bound, literal slices and structs, stores. -/
import Derived.Test.YtginljdgdllhfaaAbs7
set_option linter.unusedVariables false
set_option linter.unusedSimpArgs false
namespace Go.Abs
variable {Z : Pg}
section
variable {N : Nat} {st : St} {ty : TypeId} {gate : Bool}

theorem addr_add (blk off n : Nat) : (⟨blk, off, none⟩ : Addr).add n = ⟨blk, off + n, none⟩ := by
  unfold Addr.add; split
  · rename_i h; simp [h]
  · simp

/-- &l[i] -/
theorem pure_indexAddr {x i : Operand} {t : TypeId} {g gi : Bool} {sz : Nat} {es : List (List C)} {k : IntKind} {n : Int} {j : Nat} {row : List C} {ti : TyI} {e by' : Nat} (h : lk Z.T st ty x = some (g, .v (.c (.sl sz es)))) (hi : lk Z.T st ty i = some (gi, .v (.c (.i k n))))
    (hg : gate = true → g = true) (hgi : gate = true → gi = true) (ht : tyAt Z.T t = some ti) (hel : ti.el = some (e, sz, by')) (hn : n = (j : Int)) (hj : gate = true → es[j]? = some row) : PureOk Z st (.indexAddr t x i) ty gate (.v (.ro row)) := by
  intro o E G a w ho _ hr hgt
  have h1 := lk_rep hr h (hg hgt)
  have h2 := XRep.int (lk_rep hr hi (hgi hgt))
  have hj := hj hgt
  subst hn
  obtain ⟨hu, jf, ze, hinfo, hsz, _, _, _, _⟩ := (Z.tyOk ht).sl e sz by' hel
  rcases CRep.sl_cases h1 with ⟨_, _, rfl⟩ | ⟨blk, off, len, cap, hv, hl⟩
  · simp at hj
  · rw [hv] at h1
    obtain ⟨_, _, _, hel'⟩ := h1.elem
    obtain ⟨hrl, hrow⟩ := hel' j row hj
    have hlt : j < len := by rw [← hl]; exact (List.getElem?_eq_some_iff.1 hj).1
    refine ⟨.pointer (some ⟨blk, off + j * sz, none⟩), ⟨blk, off + j * sz, rfl, hrow⟩, ?_⟩
    simp [execOp, ho, hv, h2, Instr.indexAt, asIntOf, underlying, hu, hlt, sizeOf, typeInfo, hinfo, hsz, addr_add]

/-- len(l), and that it is no greater than any int. -/
theorem al_lenSl {ops : Array Oper} {rest : List Oper} {K : St → Prop} {o : Oper} {d : Nat} {x : Operand} {t : TypeId} {g : Bool} {sz : Nat} {es : List (List C)} {ti : TyI} {el : Nat × Nat × Nat}
    (ho : o.op = .call { callee := .builtin .len, args := #[x], argTypes := #[t] }) (hgt : gateOf ops st o = some gate) (hd : o.dst = some d) (hN : Nat.ble (d + 1) N = true) (h : lk Z.T st o.type x = some (g, .v (.c (.sl sz es)))) (hg : gate = true → g = true)
    (ht : tyAt Z.T t = some ti) (hel : ti.el = some el) (hK : es.length ≤ 9223372036854775807 → AL Z N ops rest K (st.put d (gate, .v (.c (.i .i64 (es.length : Int)))))) (hskip : gate = false → es.length ≤ 9223372036854775807) : AL Z N ops (o :: rest) K st := by
  intro E G a w hr hE K' hK'
  have hlen : es.length ≤ 9223372036854775807 := by
    cases hgv : gate with
    | false => exact hskip hgv
    | true => exact CRep.lenMax (lk_rep hr h (hg hgv))
  exact al_pure hgt hd hN (by rw [ho]; exact pure_lenSl h hg ht hel) (hK hlen) E G a w hr hE K' hK'
theorem al_lenS {ops : Array Oper} {rest : List Oper} {K : St → Prop} {o : Oper} {d : Nat} {x : Operand} {t : TypeId} {g : Bool} {l : List UInt8}
    (ho : o.op = .call { callee := .builtin .len, args := #[x], argTypes := #[t] }) (hgt : gateOf ops st o = some gate) (hd : o.dst = some d) (hN : Nat.ble (d + 1) N = true) (h : lk Z.T st o.type x = some (g, .v (.c (.s l)))) (hg : gate = true → g = true)
    (hu : Z.P.underlying t = some .string) (hK : l.length ≤ 9223372036854775807 → AL Z N ops rest K (st.put d (gate, .v (.c (.i .i64 (l.length : Int)))))) (hskip : gate = false → l.length ≤ 9223372036854775807) : AL Z N ops (o :: rest) K st := by
  intro E G a w hr hE K' hK'
  have hlen : l.length ≤ 9223372036854775807 := by
    cases hgv : gate with
    | false => exact hskip hgv
    | true => exact CRep.strMax (lk_rep hr h (hg hgv))
  exact al_pure hgt hd hN (by rw [ho]; exact pure_lenS h hg hu) (hK hlen) E G a w hr hE K' hK'


/-! ### Small words for the walk -/
def subT (s : St) : List (Nat × Bool × X) → Prop
  | [] => True
  | (k, e) :: r => (∃ e', s.get k = some e' ∧ e' = e) ∧ subT s r
def subB (s : St) : List (Nm × List C) → Prop
  | [] => True
  | (n, cs) :: r => (∃ ds, s.box n = some ds ∧ ds = cs) ∧ subB s r
def subO (s : St) : List (Pl × Nat) → Prop
  | [] => True
  | (p, sz) :: r => s.own p = some sz ∧ subO s r
theorem subT_get {s : St} : ∀ {l : List (Nat × Bool × X)}, subT s l → ∀ k e, getT l k = some e → s.get k = some e
  | [], _, k, e, h => by simp [getT] at h
  | (j, e') :: r, hs, k, e, h => by
    rw [getT_cons] at h
    split at h
    · rename_i hj; subst hj
      obtain ⟨⟨e2, h1, h2⟩, _⟩ := hs
      simp only [Option.some.injEq] at h; subst h; subst h2; exact h1
    · exact subT_get hs.2 k e h
theorem subB_get {s : St} : ∀ {l : List (Nm × List C)}, subB s l → ∀ k e, getB l k = some e → s.box k = some e
  | [], _, k, e, h => by simp [getB] at h
  | (j, e') :: r, hs, k, e, h => by
    rw [getB_cons] at h
    split at h
    · rename_i hj; subst hj
      obtain ⟨⟨e2, h1, h2⟩, _⟩ := hs
      simp only [Option.some.injEq] at h; subst h; subst h2; exact h1
    · exact subB_get hs.2 k e h
theorem subO_get {s : St} : ∀ {l : List (Pl × Nat)}, subO s l → ∀ k e, getO l k = some e → s.own k = some e
  | [], _, k, e, h => by simp [getO] at h
  | (j, e') :: r, hs, k, e, h => by
    rw [getO_cons] at h
    split at h
    · rename_i hj; subst hj
      simp only [Option.some.injEq] at h; subst h; exact hs.1
    · exact subO_get hs.2 k e h
theorem sub_mk {s s' : St} (h1 : subT s' s.t) (h2 : subB s' s.bx) (h3 : subO s' s.ow) : Sub s s' :=
  ⟨fun k e h => subT_get h1 k e h, fun k e h => subB_get h2 k e h, fun k e h => subO_get h3 k e h⟩
theorem thenS_exit {id : Nat} {next : St → Prop} {Q : Exit → St → Prop} {s : St} (h : Q (.exit id) s) : thenS next Q (.exit id) s := h
theorem thenS_ret {next : St → Prop} {Q : Exit → St → Prop} {s : St} (h : Q .ret s) : thenS next Q .ret s := h
theorem thenS_normal {next : St → Prop} {Q : Exit → St → Prop} {s : St} (h : next s) : thenS next Q .normal s := h
theorem blockS_ret {id : Nat} {Q : Exit → St → Prop} {s : St} (h : Q .ret s) : blockS id Q .ret s := h
theorem blockS_normal {id : Nat} {Q : Exit → St → Prop} {s : St} (h : Q .normal s) : blockS id Q .normal s := h
theorem blockS_hit {id : Nat} {Q : Exit → St → Prop} {s : St} (h : Q .normal s) : blockS id Q (.exit id) s := by simp only [blockS, if_true]; exact h
theorem blockS_miss {id id' : Nat} {Q : Exit → St → Prop} {s : St} (hne : Nat.beq id' id = false) (h : Q (.exit id') s) : blockS id Q (.exit id') s := by
  simp only [blockS]
  rw [if_neg (fun e => by subst e; simp at hne)]
  exact h
theorem ret_ok {T : List (Option TyI)} {rs : List ResultVar} {res x : X} {bs' : List (List C)} {s : St} (h : resX T s rs = some x) (hx : x = res) (hb : subB s (boxesB 0 bs')) : retS T rs res none bs' .ret s := by
  subst hx
  refine ⟨h, trivial, fun j cs hj => subB_get hb (.o j) cs ?_⟩
  have : ∀ (l : List (List C)) (k j : Nat) (cs : List C), l[j]? = some cs → getB (boxesB k l) (.o (k + j)) = some cs := by
    intro l
    induction l with
    | nil => intro k j cs h; simp at h
    | cons c r ih =>
      intro k j cs h
      rw [boxesB, getB_cons]
      cases j with
      | zero => simp at h; subst h; simp
      | succ j =>
        have : ¬ (Nm.o k = Nm.o (k + (j + 1))) := by simp
        rw [if_neg this, show k + (j + 1) = k + 1 + j by omega]
        exact ih (k + 1) j cs (by simpa using h)
  have := this bs' 0 j cs hj
  rwa [Nat.zero_add] at this
theorem ret_own {T : List (Option TyI)} {t sz : Nat} {res x : X} {s : St} (h : resX T s [.tmp t] = some x) (hx : x = res) (ho : s.own (.t t) = some sz) : retS T [.tmp t] res (some sz) [] .ret s := by
  subst hx
  exact ⟨h, ho, fun j cs hj => by simp at hj⟩
end
end Go.Abs
