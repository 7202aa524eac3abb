/- The links of a drawn region. -/
import Derived.Test.YtginljdgdllhfaaAbs12
import Derived.KernelRfl
set_option linter.unusedVariables false
set_option linter.unusedSimpArgs false
namespace Go.Abs
variable {Z : Pg}

def pickT (st : St) : List Nat → List (Nat × Bool × X)
  | [] => []
  | k :: r => match st.get k with
    | some e => (k, e) :: pickT st r
    | none => pickT st r
def pickB (st : St) : List Nm → List (Nm × List C)
  | [] => []
  | k :: r => match st.box k with
    | some e => (k, e) :: pickB st r
    | none => pickB st r
def pickO (st : St) : List Pl → List (Pl × Nat)
  | [] => []
  | k :: r => match st.own k with
    | some e => (k, e) :: pickO st r
    | none => pickO st r
/-- Only what is read. -/
def rs (R : Foot) (st : St) : St := { t := pickT st R.rt, bx := pickB st R.rb, ow := pickO st R.ro }

theorem pickT_get (st : St) : ∀ (l : List Nat) (k : Nat) (e : Bool × X), getT (pickT st l) k = some e → st.get k = some e ∧ k ∈ l
  | [], k, e, h => by simp [pickT, getT] at h
  | j :: r, k, e, h => by
    unfold pickT at h
    split at h
    · rename_i e' he
      rw [getT_cons] at h
      split at h
      · rename_i hj; subst hj; simp at h; subst h; exact ⟨he, by simp⟩
      · have := pickT_get st r k e h; exact ⟨this.1, by simp [this.2]⟩
    · have := pickT_get st r k e h; exact ⟨this.1, by simp [this.2]⟩
theorem pickB_get (st : St) : ∀ (l : List Nm) (k : Nm) (e : List C), getB (pickB st l) k = some e → st.box k = some e ∧ k ∈ l
  | [], k, e, h => by simp [pickB, getB] at h
  | j :: r, k, e, h => by
    unfold pickB at h
    split at h
    · rename_i e' he
      rw [getB_cons] at h
      split at h
      · rename_i hj; subst hj; simp at h; subst h; exact ⟨he, by simp⟩
      · have := pickB_get st r k e h; exact ⟨this.1, by simp [this.2]⟩
    · have := pickB_get st r k e h; exact ⟨this.1, by simp [this.2]⟩
theorem pickO_get (st : St) : ∀ (l : List Pl) (k : Pl) (e : Nat), getO (pickO st l) k = some e → st.own k = some e ∧ k ∈ l
  | [], k, e, h => by simp [pickO, getO] at h
  | j :: r, k, e, h => by
    unfold pickO at h
    split at h
    · rename_i e' he
      rw [getO_cons] at h
      split at h
      · rename_i hj; subst hj; simp at h; subst h; exact ⟨he, by simp⟩
      · have := pickO_get st r k e h; exact ⟨this.1, by simp [this.2]⟩
    · have := pickO_get st r k e h; exact ⟨this.1, by simp [this.2]⟩
theorem Agree.sub {R : Foot} {st s2 : St} (h : Agree R st s2) : Sub (rs R st) s2 where
  t := fun k e hk => by
    obtain ⟨h1, h2⟩ := pickT_get st R.rt k e hk
    rw [h.t k h2]; exact h1
  bx := fun k e hk => by
    obtain ⟨h1, h2⟩ := pickB_get st R.rb k e hk
    rw [h.b k h2]; exact h1
  ow := fun k e hk => by
    obtain ⟨h1, h2⟩ := pickO_get st R.ro k e hk
    rw [h.o k h2]; exact h1

theorem lk_sub {T : List (Option TyI)} {s s2 : St} (h : Sub s s2) {ty : TypeId} {o : Operand} {e : Bool × X} (hl : lk T s ty o = some e) : lk T s2 ty o = some e := by
  cases o with
  | tmp k => exact h.t k e hl
  | const v => exact hl
  | global g => exact hl
  | func f => exact hl
theorem lkAll_sub {T : List (Option TyI)} {s s2 : St} (h : Sub s s2) : ∀ {ts : List TypeId} {os : List Operand} {e : Bool × List X}, lkAll T s ts os = some e → lkAll T s2 ts os = some e
  | _, [], e, hl => by simpa [lkAll] using hl
  | [], _ :: _, e, hl => by simp [lkAll] at hl
  | t :: ts, o :: os, e, hl => by
    simp only [lkAll] at hl ⊢
    split at hl
    · rename_i g x h1
      rw [lk_sub h h1]
      dsimp only
      split at hl
      · rename_i g' xs h2
        rw [lkAll_sub h h2]
        exact hl
      · simp at hl
    · simp at hl
theorem rowsOf_sub {T : List (Option TyI)} {s s2 : St} (h : Sub s s2) {ty : TypeId} {sz : Nat} : ∀ {os : List Operand} {e : Bool × List (List C)}, rowsOf T s ty sz os = some e → rowsOf T s2 ty sz os = some e
  | [], e, hl => by simpa [rowsOf] using hl
  | o :: os, e, hl => by
    simp only [rowsOf] at hl ⊢
    split at hl
    · rename_i g y h1
      rw [lk_sub h h1]
      dsimp only
      split at hl
      · rename_i cs g' r' h2 h3
        rw [h2, rowsOf_sub h h3]
        exact hl
      · simp at hl
    · simp at hl
theorem gateOf_sub {ops : Array Oper} {s s2 : St} (h : Sub s s2) {o : Oper} {g : Bool} (hl : gateOf ops s o = some g) : gateOf ops s2 o = some g := by
  unfold gateOf at hl ⊢
  split at hl
  · exact hl
  · rename_i j want hg
    split at hl
    · rename_i d hd
      split at hl
      · rename_i g' x hx
        rw [h.t d _ hx]
        exact hl
      · simp at hl
    · simp at hl
theorem PureOk.sub {st s2 : St} {op : Op} {ty : TypeId} {gate : Bool} {x : X} (h : PureOk Z st op ty gate x) (hs : Sub st s2) : PureOk Z s2 op ty gate x :=
  fun o E G a w h1 h2 hr hg => h o E G a w h1 h2 (hr.sub hs) hg

def slotsOf (ops : Array Oper) (o : Oper) : List Nat :=
  (o.op.operands.toList.filterMap fun x => match x with | .tmp k => some k | _ => none) ++
  (match o.guard with | some (j, _) => (match (ops[j]?).bind (·.dst) with | some d => [d] | none => []) | none => [])
def foot (ops : Array Oper) (o : Oper) (rb : List Nm) (ro : List Pl) : Foot := { rt := slotsOf ops o, rb := rb, ro := ro }

section
variable {N : Nat} {ops : Array Oper} {st : St} {o : Oper}

theorem ls_pure {gate : Bool} {d : Nat} {x : X} {R : Foot} (hg : gateOf ops (rs R st) o = some gate) (hd : o.dst = some d) (hN : Nat.ble (d + 1) N = true) (hp : PureOk Z (rs R st) o.op o.type gate x) :
    LS Z N ops o { d := some (d, gate, x), drop := [.t d] } R st := by
  intro s2 ha _
  refine (op1_pure (gateOf_sub ha.sub hg) hd hN (hp.sub ha.sub)).sub ⟨?_, ?_, ?_⟩
  · intro k e hk
    rw [ap_get] at hk
    rw [St.put_get]
    simp only [Eff.gt] at hk
    by_cases h : d = k
    · subst h; simpa using hk
    · have h' : ¬ k = d := fun e => h e.symm
      simpa [h, h'] using hk
  · intro n cs hn
    rw [ap_box] at hn
    exact hn
  · intro p sz hp
    rw [ap_own] at hp
    rw [St.put_own]
    simp only [Eff.go, List.mem_singleton] at hp
    split
    · rename_i he; rw [if_pos he] at hp; exact hp
    · rename_i he; rw [if_neg he] at hp; exact hp

theorem ret_sub {s2 : St} {d : Nat} {gate : Bool} {res : X} {ro : Option Nat} :
    Sub (ap { d := some (d, gate, res), drop := [.t d], gain := cond gate (ro.map fun sz => (.t d, sz)) none } s2) (s2.ret d gate res ro) where
  t := fun k e hk => by
    rw [ap_get] at hk
    have : (s2.ret d gate res ro).get k = (s2.put d (gate, res)).get k := by
      unfold St.ret
      cases ro with
      | none => rfl
      | some sz => cases gate <;> rfl
    rw [this, St.put_get]
    simp only [Eff.gt] at hk
    by_cases h : d = k
    · subst h; simpa using hk
    · have h' : ¬ k = d := fun e => h e.symm
      simpa [h, h'] using hk
  bx := fun n cs hn => by
    rw [ap_box] at hn
    have : (s2.ret d gate res ro).box n = s2.box n := by
      unfold St.ret
      cases ro with
      | none => rfl
      | some sz => cases gate <;> rfl
    rw [this]; exact hn
  ow := fun p s hp => by
    rw [ap_own] at hp
    unfold St.ret
    cases ro with
    | none =>
      have hgn : (cond gate (Option.map (fun sz => (Pl.t d, sz)) (none : Option Nat)) none) = none := by cases gate <;> rfl
      simp only [Eff.go, hgn, List.mem_singleton] at hp
      dsimp only
      rw [St.put_own]
      split
      · rename_i he; rw [if_pos he] at hp; exact hp
      · rename_i he; rw [if_neg he] at hp; exact hp
    | some sz =>
      cases gate with
      | false =>
        simp only [Eff.go, cond_false, List.mem_singleton] at hp
        dsimp only [cond_false]
        rw [St.put_own]
        split
        · rename_i he; rw [if_pos he] at hp; exact hp
        · rename_i he; rw [if_neg he] at hp; exact hp
      | true =>
        simp only [Eff.go, cond_true, Option.map_some, List.mem_singleton] at hp
        dsimp only [cond_true]
        rw [St.addOwn_own]
        split
        · rename_i he; rw [if_pos he] at hp; exact hp
        · rename_i he
          rw [if_neg he] at hp
          rw [St.put_own]
          split
          · rename_i he2; exact absurd he2.symm he
          · rename_i he2; rw [if_neg he2] at hp; exact hp

theorem ls_call {gate g gf : Bool} {d : Nat} {fo : Operand} {args : Array Operand} {ts : Array TypeId} {f : FuncId} {caps : List Y} {xs : List X} {res : X} {ro : Option Nat} {R : Foot}
    (ho : o.op = .call { callee := .value fo, args := args, argTypes := ts }) (hg : gateOf ops (rs R st) o = some gate) (hd : o.dst = some d) (hN : Nat.ble (d + 1) N = true)
    (hf : lk Z.T (rs R st) 0 fo = some (gf, .fn f caps)) (ha : lkAll Z.T (rs R st) ts.toList args.toList = some (g, xs)) (hgf : gate = true → gf = true) (hga : gate = true → g = true)
    (hs : Ctr Z f (xs ++ caps.map .v) [] res ro []) (hc : res.clean = true) :
    LS Z N ops o { d := some (d, gate, res), drop := [.t d], gain := cond gate (ro.map fun sz => (.t d, sz)) none } R st :=
  fun _ hag _ => (op1_call ho (gateOf_sub hag.sub hg) hd hN (lk_sub hag.sub hf) (lkAll_sub hag.sub ha) hgf hga hs hc).sub ret_sub

theorem ls_buildSlice {gate g : Bool} {d : Nat} {t : TypeId} {len : Nat} {parts : Array (Nat × Operand)} {xs : List Operand} {ti : TyI} {e sz by' : Nat} {rws : List (List C)} {R : Foot}
    (ho : o.op = .buildSlice t len parts) (hg : gateOf ops (rs R st) o = some gate) (hd : o.dst = some d) (hN : Nat.ble (d + 1) N = true) (ht : tyAt Z.T t = some ti) (hel : ti.el = some (e, sz, by')) (hp : parts.toList = enumO 0 xs) (hx : Nat.beq xs.length len = true)
    (hrs : rowsOf Z.T (rs R st) e sz xs = some (g, rws)) (hga : gate = true → g = true) (hbig : Nat.ble (len * sz) 10000 = true) :
    LS Z N ops o { d := some (d, gate, .v (.c (.sl sz rws))), drop := [.t d], gain := cond gate ((some sz).map fun sz => (.t d, sz)) none } R st :=
  fun _ hag _ => (op1_buildSlice ho (gateOf_sub hag.sub hg) hd hN ht hel hp hx (rowsOf_sub hag.sub hrs) hga hbig).sub ret_sub

theorem app_sub {s2 : St} {d k sz : Nat} {x : X} : Sub (ap { d := some (d, true, x), drop := [.t d, .t k], gain := some (.t d, sz) } s2) (s2.take d k x sz) where
  t := fun j e hj => by
    rw [ap_get] at hj
    show (s2.put d (true, x)).get j = _
    rw [St.put_get]
    simp only [Eff.gt] at hj
    by_cases h : d = j
    · subst h; simpa using hj
    · have h' : ¬ j = d := fun e => h e.symm
      simpa [h, h'] using hj
  bx := fun n cs hn => by rw [ap_box] at hn; exact hn
  ow := fun p s hp => by
    rw [ap_own] at hp
    unfold St.take
    rw [St.addOwn_own]
    simp only [Eff.go, List.mem_cons, List.not_mem_nil, or_false] at hp
    split
    · rename_i he; rw [if_pos he] at hp; exact hp
    · rename_i he
      rw [if_neg he] at hp
      rw [St.unown_own, St.put_own]
      split
      · rename_i h2; rw [if_pos (.inr h2)] at hp; exact hp
      · rename_i h2
        split
        · rename_i h3; rw [if_pos (.inl h3)] at hp; exact hp
        · rename_i h3; rw [if_neg (by rintro (h | h) <;> contradiction)] at hp; exact hp

theorem ls_append {d k : Nat} {x : Operand} {t : TypeId} {sz e by' : Nat} {es xs : List (List C)} {ti : TyI} {R : Foot} (ho : o.op = .call { callee := .builtin .append, args := #[.tmp k, x], argTypes := #[t, t] }) (hg : gateOf ops (rs R st) o = some true) (hd : o.dst = some d)
    (hs : (rs R st).get k = some (true, .v (.c (.sl sz es)))) (hw : (rs R st).own (.t k) = some sz) (hx : lk Z.T (rs R st) t x = some (true, .v (.c (.sl sz xs))))
    (ht : tyAt Z.T t = some ti) (hel : ti.el = some (e, sz, by')) (hN : Nat.ble (d + 1) N = true) (hkd : Nat.beq k d = false) (hbig : (es.length + xs.length) * by' ≤ 140737488355328) (hmax : es.length + xs.length ≤ 9223372036854775807) :
    LS Z N ops o { d := some (d, true, .v (.c (.sl sz (es ++ xs)))), drop := [.t d, .t k], gain := some (.t d, sz) } R st :=
  fun s2 hag _ => (op1_do (gateOf_sub hag.sub hg) (by rw [hd, ho]; exact does_append (hag.sub.t _ _ hs) (hag.sub.ow _ _ hw) (lk_sub hag.sub hx) ht hel hN hkd hbig hmax)).sub (app_sub (s2 := s2) (x := .v (.c (.sl sz (es ++ xs)))))

theorem ls_take {d k sz : Nat} {x : X} {R : Foot} (hop : o.op = .move (.tmp k) ∨ o.op = .assign (.tmp k)) (hg : gateOf ops (rs R st) o = some true) (hd : o.dst = some d) (h : (rs R st).get k = some (true, x)) (hw : (rs R st).own (.t k) = some sz) (hN : Nat.ble (d + 1) N = true) :
    LS Z N ops o { d := some (d, true, x), drop := [.t d, .t k], gain := some (.t d, sz) } R st :=
  fun s2 hag _ => (op1_do (gateOf_sub hag.sub hg) (by rw [hd]; exact does_take hop (hag.sub.t _ _ h) (hag.sub.ow _ _ hw) hN)).sub (app_sub (s2 := s2) (x := x))

/-- The places in a row of cells of a box. -/
def cellPls (n : Nm) (off : Nat) : Nat → List Pl
  | 0 => []
  | k + 1 => .b n off :: cellPls n (off + 1) k
theorem mem_cellPls {n : Nm} {p : Pl} : ∀ {len off : Nat}, p ∈ cellPls n off len ↔ Pl.inCells n off len p = true
  | 0, off => by
    cases p with
    | t k => simp [cellPls, Pl.inCells]
    | b m k =>
      simp only [cellPls, List.not_mem_nil, false_iff, Pl.inCells, Bool.and_eq_true, not_and]
      intro _ h1 h2
      have := Nat.le_of_ble_eq_true h1
      have := Nat.le_of_ble_eq_true h2
      omega
  | len + 1, off => by
    simp only [cellPls, List.mem_cons, mem_cellPls (len := len) (off := off + 1)]
    cases p with
    | t k => simp [Pl.inCells]
    | b m k =>
      simp only [Pl.inCells, Bool.and_eq_true, Nm.beq_iff, Pl.b.injEq]
      constructor
      · rintro (⟨rfl, rfl⟩ | ⟨h1, h2, h3⟩)
        · exact ⟨rfl, Nat.ble_eq_true_of_le (Nat.le_refl _), Nat.ble_eq_true_of_le (by omega)⟩
        · have := Nat.le_of_ble_eq_true h2
          have := Nat.le_of_ble_eq_true h3
          exact ⟨h1, Nat.ble_eq_true_of_le (by omega), Nat.ble_eq_true_of_le (by omega)⟩
      · rintro ⟨h1, h2, h3⟩
        have := Nat.le_of_ble_eq_true h2
        have := Nat.le_of_ble_eq_true h3
        by_cases hk : k = off
        · exact .inl ⟨h1, hk⟩
        · exact .inr ⟨h1, Nat.ble_eq_true_of_le (by omega), Nat.ble_eq_true_of_le (by omega)⟩

theorem store_sub {s2 : St} {n : Nm} {cs : List C} {off len : Nat} : Sub (ap { b := some (n, cs), drop := cellPls n off len } s2) (s2.store n cs off len) where
  t := fun j e hj => by rw [ap_get] at hj; exact hj
  bx := fun m ds hm => by
    rw [ap_box] at hm
    rw [St.store_box]
    simp only [Eff.gb] at hm
    split
    · rename_i he; rw [if_pos he] at hm; exact hm
    · rename_i he; rw [if_neg he] at hm; exact hm
  ow := fun p s hp => by
    rw [ap_own] at hp
    rw [St.store_own]
    simp only [Eff.go] at hp
    split
    · rename_i he; rw [if_pos (mem_cellPls.2 he)] at hp; exact hp
    · rename_i he; rw [if_neg (fun h => he (mem_cellPls.1 h))] at hp; exact hp

theorem ls_store {t : TypeId} {x v : Operand} {n : Nm} {off : Nat} {y : Y} {cs ds : List C} {ti : TyI} {R : Foot} (ho : o.op = .store t x v) (hg : gateOf ops (rs R st) o = some true) (hd : o.dst = none)
    (hx : lk Z.T (rs R st) t x = some (true, .v (.ptr n off))) (hv : lk Z.T (rs R st) t v = some (true, .v y)) (hc : y.cells = some ds)
    (hb : (rs R st).box n = some cs) (ht : tyAt Z.T t = some ti) (hn : ds.length = ti.n) (hl : Nat.ble (off + ds.length) cs.length = true) :
    LS Z N ops o { b := some (n, setAt cs off ds), drop := cellPls n off ds.length } R st :=
  fun _ hag _ => (op1_do (gateOf_sub hag.sub hg) (by rw [hd, ho]; exact does_store (lk_sub hag.sub hx) (lk_sub hag.sub hv) hc (hag.sub.bx _ _ hb) ht hn hl)).sub store_sub

theorem ls_loadTake {d : Nat} {t : TypeId} {x : Operand} {n : Nm} {off : Nat} {ti : TyI} {cs : List C} {c : C} {sz : Nat} {R : Foot} (ho : o.op = .load t x) (hg : gateOf ops (rs R st) o = some true) (hd : o.dst = some d) (h : lk Z.T (rs R st) o.type x = some (true, .v (.ptr n off)))
    (ht : tyAt Z.T t = some ti) (hagg : ti.agg = false) (hb : (rs R st).box n = some cs) (hc : cs[off]? = some c) (hw : (rs R st).own (.b n off) = some sz) (hN : Nat.ble (d + 1) N = true) :
    LS Z N ops o { d := some (d, true, .v (.c c)), drop := [.t d, .b n off], gain := some (.t d, sz) } R st := by
  intro s2 hag _
  refine (op1_do (gateOf_sub hag.sub hg) (by rw [hd, ho]; exact does_loadTake (lk_sub hag.sub h) ht hagg (hag.sub.bx _ _ hb) hc (hag.sub.ow _ _ hw) hN)).sub ⟨?_, ?_, ?_⟩
  · intro j e hj
    rw [ap_get] at hj
    show (s2.put d (true, .v (.c c))).get j = _
    rw [St.put_get]
    simp only [Eff.gt] at hj
    by_cases h : d = j
    · subst h; simpa using hj
    · have h' : ¬ j = d := fun e => h e.symm
      simpa [h, h'] using hj
  · intro n cs hn; rw [ap_box] at hn; exact hn
  · intro p s hp
    rw [ap_own] at hp
    rw [St.addOwn_own]
    simp only [Eff.go, List.mem_cons, List.not_mem_nil, or_false] at hp
    split
    · rename_i he; rw [if_pos he] at hp; exact hp
    · rename_i he
      rw [if_neg he] at hp
      rw [St.unown_own, St.put_own]
      split
      · rename_i h2; rw [if_pos (.inr h2)] at hp; exact hp
      · rename_i h2
        split
        · rename_i h3; rw [if_pos (.inl h3)] at hp; exact hp
        · rename_i h3; rw [if_neg (by rintro (h | h) <;> contradiction)] at hp; exact hp

theorem ls_storeOwn {t : TypeId} {x : Operand} {k : Nat} {n : Nm} {off : Nat} {c : C} {cs : List C} {ti : TyI} {sz : Nat} {R : Foot} (ho : o.op = .store t x (.tmp k)) (hg : gateOf ops (rs R st) o = some true) (hd : o.dst = none)
    (hx : lk Z.T (rs R st) t x = some (true, .v (.ptr n off))) (hv : (rs R st).get k = some (true, .v (.c c)))
    (hb : (rs R st).box n = some cs) (ht : tyAt Z.T t = some ti) (hn : ti.n = 1) (hl : Nat.ble (off + 1) cs.length = true) (hw : (rs R st).own (.t k) = some sz) :
    LS Z N ops o { b := some (n, setAt cs off [c]), drop := [.t k, .b n off], gain := some (.b n off, sz) } R st := by
  intro s2 hag _
  refine (op1_do (gateOf_sub hag.sub hg) (by rw [hd, ho]; exact does_storeOwn (lk_sub hag.sub hx) (hag.sub.t _ _ hv) (hag.sub.bx _ _ hb) ht hn hl (hag.sub.ow _ _ hw))).sub ⟨?_, ?_, ?_⟩
  · intro j e hj; rw [ap_get] at hj; exact hj
  · intro m ds hm
    rw [ap_box] at hm
    show (s2.store n (setAt cs off [c]) off 1).box m = _
    rw [St.store_box]
    simp only [Eff.gb] at hm
    split
    · rename_i he; rw [if_pos he] at hm; exact hm
    · rename_i he; rw [if_neg he] at hm; exact hm
  · intro p s hp
    rw [ap_own] at hp
    rw [St.addOwn_own]
    simp only [Eff.go, List.mem_cons, List.not_mem_nil, or_false] at hp
    split
    · rename_i he; rw [if_pos he] at hp; exact hp
    · rename_i he
      rw [if_neg he] at hp
      rw [St.unown_own, St.store_own]
      split
      · rename_i h2; rw [if_pos (.inl h2)] at hp; exact hp
      · rename_i h2
        split
        · rename_i h3
          have h4 := mem_cellPls.2 h3
          simp [cellPls] at h4
          exact absurd h4.symm he
        · rename_i h3; rw [if_neg (by rintro (h | h); exact h2 h; exact he h.symm)] at hp; exact hp

/-! ### The driver's goal -/
def Draw (Z : Pg) (N : Nat) (s0 : St) (ops : Array Oper) (B : List Nat) (k : Nat) (rest : List Oper) (acc : List Lnk) (st : St) (Q : St → Prop) : Prop :=
  ∃ L sf, Chain Z N ops L st sf ∧ Nat.beq L.length rest.length = true ∧ linksB k L = true ∧ (pairsB B (acc ++ L) && nmB B (acc ++ L)) = true ∧ (∀ l ∈ L, ∀ n ∈ l.2.2.rn, s0.freshO n = true) ∧ Q sf

theorem dr_nil {s0 : St} {B : List Nat} {k : Nat} {acc : List Lnk} {Q : St → Prop} (hp : (pairsB B acc && nmB B acc) = true) (hQ : Q st) : Draw Z N s0 ops B k [] acc st Q :=
  ⟨[], st, Eqv.refl _, rfl, rfl, by simpa using hp, fun l hl => by simp at hl, hQ⟩
theorem dr_cons {s0 : St} {B : List Nat} {k : Nat} {rest : List Oper} {acc : List Lnk} {Q : St → Prop} {e : Eff} {R : Foot} (hk : ops[k]? = some o) (h : LS Z N ops o e R st) (hr : Draw Z N s0 ops B (k + 1) rest (acc ++ [(k, e, R)]) (ap e st) Q)
    (hf : ∀ n ∈ R.rn, s0.freshO n = true := by intro n hn; exact absurd hn (List.not_mem_nil)) : Draw Z N s0 ops B k (o :: rest) acc st Q := by
  obtain ⟨L, sf, h1, h2, h3, h4, h6, h5⟩ := hr
  refine ⟨(k, e, R) :: L, sf, ⟨⟨o, hk, h⟩, h1⟩, ?_, ?_, by simpa using h4, ?_, h5⟩
  · have := Nat.eq_of_beq_eq_true h2; simp [this]
  · simp only [linksB, Bool.and_eq_true]; exact ⟨by simp, h3⟩
  · intro l hl
    rcases List.mem_cons.1 hl with rfl | hl
    · exact hf
    · exact h6 l hl
theorem awp_drawn {Q : Exit → St → Prop} {id : Nat} {l : List Oper} (B : List Nat) (hcert : certB l.toArray B = true) (h : Draw Z N st l.toArray B 0 l [] st (Q .normal)) : AWP Z N (.region id l.toArray true) Q st := by
  obtain ⟨L, sf, h1, h2, h3, h4, h6, h5⟩ := h
  rw [Bool.and_eq_true] at h4
  exact awp_draw B h1 h2 h3 hcert (by simpa using h4.1) (by simpa using h4.2) (fun l hl n hn => St.freshO_ok (h6 l hl n hn)) h5
end
end Go.Abs
