/- Our abstract program logic and contracts of this seat's functions, part 2: no statement of its own. -/
import Derived.Test.YthfoclblmdnckaaDoorM1
import Derived.KernelRfl
import Derived.Laws.Tables
import Derived.Laws.Small
import Derived.DataReads
import Derived.MapFrom
import Derived.Handed
import Derived.Carry
import Derived.Below
import Derived.Laws.Externs
import Derived.Lib.Bytealg
import Derived.Deep.AppendSrc
import Derived.Lib.UnsafeStr
import Derived.Laws.StructEq
import Derived.Laws.MakeOwn
import Derived.Laws.IdiomStrings
/- The links of a drawn region. -/
set_option linter.unusedVariables false
set_option linter.unusedSimpArgs false
namespace Go.Abs
variable {Z : Pg}

def pickT (st : St) : List Nat → List (Nat × Bool × X)
  | [] => []
  | k :: r => match st.get k with
    | some e => (k, e) :: pickT st r
    | none => pickT st r
def pickB (st : St) : List Nm → List (Nm × List C)
  | [] => []
  | k :: r => match st.box k with
    | some e => (k, e) :: pickB st r
    | none => pickB st r
def pickO (st : St) : List Pl → List (Pl × Nat)
  | [] => []
  | k :: r => match st.own k with
    | some e => (k, e) :: pickO st r
    | none => pickO st r
/-- Only what is read. -/
def rs (R : Foot) (st : St) : St := { t := pickT st R.rt, bx := pickB st R.rb, ow := pickO st R.ro, mp := st.mp }

theorem pickT_get (st : St) : ∀ (l : List Nat) (k : Nat) (e : Bool × X), getT (pickT st l) k = some e → st.get k = some e ∧ k ∈ l
  | [], k, e, h => by simp [pickT, getT] at h
  | j :: r, k, e, h => by
    unfold pickT at h
    split at h
    · rename_i e' he
      rw [getT_cons] at h
      split at h
      · rename_i hj; subst hj; simp at h; subst h; exact ⟨he, by simp⟩
      · have := pickT_get st r k e h; exact ⟨this.1, by simp [this.2]⟩
    · have := pickT_get st r k e h; exact ⟨this.1, by simp [this.2]⟩
theorem pickB_get (st : St) : ∀ (l : List Nm) (k : Nm) (e : List C), getB (pickB st l) k = some e → st.box k = some e ∧ k ∈ l
  | [], k, e, h => by simp [pickB, getB] at h
  | j :: r, k, e, h => by
    unfold pickB at h
    split at h
    · rename_i e' he
      rw [getB_cons] at h
      split at h
      · rename_i hj; subst hj; simp at h; subst h; exact ⟨he, by simp⟩
      · have := pickB_get st r k e h; exact ⟨this.1, by simp [this.2]⟩
    · have := pickB_get st r k e h; exact ⟨this.1, by simp [this.2]⟩
theorem pickO_get (st : St) : ∀ (l : List Pl) (k : Pl) (e : Nat), getO (pickO st l) k = some e → st.own k = some e ∧ k ∈ l
  | [], k, e, h => by simp [pickO, getO] at h
  | j :: r, k, e, h => by
    unfold pickO at h
    split at h
    · rename_i e' he
      rw [getO_cons] at h
      split at h
      · rename_i hj; subst hj; simp at h; subst h; exact ⟨he, by simp⟩
      · have := pickO_get st r k e h; exact ⟨this.1, by simp [this.2]⟩
    · have := pickO_get st r k e h; exact ⟨this.1, by simp [this.2]⟩
theorem Agree.sub {R : Foot} {st s2 : St} (h : Agree R st s2) : Sub (rs R st) s2 where
  t := fun k e hk => by
    obtain ⟨h1, h2⟩ := pickT_get st R.rt k e hk
    rw [h.t k h2]; exact h1
  bx := fun k e hk => by
    obtain ⟨h1, h2⟩ := pickB_get st R.rb k e hk
    rw [h.b k h2]; exact h1
  ow := fun k e hk => by
    obtain ⟨h1, h2⟩ := pickO_get st R.ro k e hk
    rw [h.o k h2]; exact h1
  mp := .inr h.m.symm

theorem lk_sub {T : List (Option TyI)} {s s2 : St} (h : Sub s s2) {ty : TypeId} {o : Operand} {e : Bool × X} (hl : lk T s ty o = some e) : lk T s2 ty o = some e := by
  cases o with
  | tmp k => exact h.t k e hl
  | const v => exact hl
  | global g => exact hl
  | func f => exact hl
theorem lkAll_sub {T : List (Option TyI)} {s s2 : St} (h : Sub s s2) : ∀ {ts : List TypeId} {os : List Operand} {e : Bool × List X}, lkAll T s ts os = some e → lkAll T s2 ts os = some e
  | _, [], e, hl => by simpa [lkAll] using hl
  | [], _ :: _, e, hl => by simp [lkAll] at hl
  | t :: ts, o :: os, e, hl => by
    simp only [lkAll] at hl ⊢
    split at hl
    · rename_i g x h1
      rw [lk_sub h h1]
      dsimp only
      split at hl
      · rename_i g' xs h2
        rw [lkAll_sub h h2]
        exact hl
      · simp at hl
    · simp at hl
theorem rowsOf_sub {T : List (Option TyI)} {s s2 : St} (h : Sub s s2) {ty : TypeId} {sz : Nat} : ∀ {os : List Operand} {e : Bool × List (List C)}, rowsOf T s ty sz os = some e → rowsOf T s2 ty sz os = some e
  | [], e, hl => by simpa [rowsOf] using hl
  | o :: os, e, hl => by
    simp only [rowsOf] at hl ⊢
    split at hl
    · rename_i g y h1
      rw [lk_sub h h1]
      dsimp only
      split at hl
      · rename_i cs g' r' h2 h3
        rw [h2, rowsOf_sub h h3]
        exact hl
      · simp at hl
    · simp at hl
theorem gateOf_sub {ops : Array Oper} {s s2 : St} (h : Sub s s2) {o : Oper} {g : Bool} (hl : gateOf ops s o = some g) : gateOf ops s2 o = some g := by
  unfold gateOf at hl ⊢
  split at hl
  · exact hl
  · rename_i j want hg
    split at hl
    · rename_i d hd
      split at hl
      · rename_i g' x hx
        rw [h.t d _ hx]
        exact hl
      · simp at hl
    · simp at hl
theorem PureOk.sub {st s2 : St} {op : Op} {ty : TypeId} {gate : Bool} {x : X} (h : PureOk Z st op ty gate x) (hs : Sub st s2) : PureOk Z s2 op ty gate x :=
  fun o E G a w h1 h2 hr hg => h o E G a w h1 h2 (hr.sub hs) hg

def slotsOf (ops : Array Oper) (o : Oper) : List Nat :=
  (o.op.operands.toList.filterMap fun x => match x with | .tmp k => some k | _ => none) ++
  (match o.guard with | some (j, _) => (match (ops[j]?).bind (·.dst) with | some d => [d] | none => []) | none => [])
def foot (ops : Array Oper) (o : Oper) (rb : List Nm) (ro : List Pl) : Foot := { rt := slotsOf ops o, rb := rb, ro := ro }

section
variable {N : Nat} {ops : Array Oper} {st : St} {o : Oper}

theorem ls_pure {gate : Bool} {d : Nat} {x : X} {R : Foot} (hg : gateOf ops (rs R st) o = some gate) (hd : o.dst = some d) (hN : Nat.ble (d + 1) N = true) (hp : PureOk Z (rs R st) o.op o.type gate x) :
    LS Z N ops o { d := some (d, gate, x), drop := [.t d] } R st := by
  intro s2 ha _
  refine (op1_pure (gateOf_sub ha.sub hg) hd hN (hp.sub ha.sub)).sub ⟨?_, ?_, ?_, by exact .inr rfl⟩
  · intro k e hk
    rw [ap_get] at hk
    rw [St.put_get]
    simp only [Eff.gt] at hk
    by_cases h : d = k
    · subst h; simpa using hk
    · have h' : ¬ k = d := fun e => h e.symm
      simpa [h, h'] using hk
  · intro n cs hn
    rw [ap_box] at hn
    exact hn
  · intro p sz hp
    rw [ap_own] at hp
    rw [St.put_own]
    simp only [Eff.go, List.mem_singleton] at hp
    split
    · rename_i he; rw [if_pos he] at hp; exact hp
    · rename_i he; rw [if_neg he] at hp; exact hp

theorem ret_sub {s2 : St} {d : Nat} {gate : Bool} {res : X} {ro : Option Nat} :
    Sub (ap { d := some (d, gate, res), drop := [.t d], gain := cond gate (ro.map fun sz => (.t d, sz)) none } s2) (s2.ret d gate res ro) where
  mp := .inr (by unfold St.ret; cases ro with | none => rfl | some sz => cases gate <;> rfl)
  t := fun k e hk => by
    rw [ap_get] at hk
    have : (s2.ret d gate res ro).get k = (s2.put d (gate, res)).get k := by
      unfold St.ret
      cases ro with
      | none => rfl
      | some sz => cases gate <;> rfl
    rw [this, St.put_get]
    simp only [Eff.gt] at hk
    by_cases h : d = k
    · subst h; simpa using hk
    · have h' : ¬ k = d := fun e => h e.symm
      simpa [h, h'] using hk
  bx := fun n cs hn => by
    rw [ap_box] at hn
    have : (s2.ret d gate res ro).box n = s2.box n := by
      unfold St.ret
      cases ro with
      | none => rfl
      | some sz => cases gate <;> rfl
    rw [this]; exact hn
  ow := fun p s hp => by
    rw [ap_own] at hp
    unfold St.ret
    cases ro with
    | none =>
      have hgn : (cond gate (Option.map (fun sz => (Pl.t d, sz)) (none : Option Nat)) none) = none := by cases gate <;> rfl
      simp only [Eff.go, hgn, List.mem_singleton] at hp
      dsimp only
      rw [St.put_own]
      split
      · rename_i he; rw [if_pos he] at hp; exact hp
      · rename_i he; rw [if_neg he] at hp; exact hp
    | some sz =>
      cases gate with
      | false =>
        simp only [Eff.go, cond_false, List.mem_singleton] at hp
        dsimp only [cond_false]
        rw [St.put_own]
        split
        · rename_i he; rw [if_pos he] at hp; exact hp
        · rename_i he; rw [if_neg he] at hp; exact hp
      | true =>
        simp only [Eff.go, cond_true, Option.map_some, List.mem_singleton] at hp
        dsimp only [cond_true]
        rw [St.addOwn_own]
        split
        · rename_i he; rw [if_pos he] at hp; exact hp
        · rename_i he
          rw [if_neg he] at hp
          rw [St.put_own]
          split
          · rename_i he2; exact absurd he2.symm he
          · rename_i he2; rw [if_neg he2] at hp; exact hp

theorem ls_call {gate g gf : Bool} {d : Nat} {fo : Operand} {args : Array Operand} {ts : Array TypeId} {f : FuncId} {caps : List Y} {xs : List X} {res : X} {ro : Option Nat} {R : Foot}
    (ho : o.op = .call { callee := .value fo, args := args, argTypes := ts }) (hg : gateOf ops (rs R st) o = some gate) (hd : o.dst = some d) (hN : Nat.ble (d + 1) N = true)
    (hf : lk Z.T (rs R st) 0 fo = some (gf, .fn f caps)) (ha : lkAll Z.T (rs R st) ts.toList args.toList = some (g, xs)) (hgf : gate = true → gf = true) (hga : gate = true → g = true)
    (hs : Ctr Z f (xs ++ caps.map .v) [] res ro []) (hc : res.clean = true) :
    LS Z N ops o { d := some (d, gate, res), drop := [.t d], gain := cond gate (ro.map fun sz => (.t d, sz)) none } R st :=
  fun _ hag _ => (op1_call ho (gateOf_sub hag.sub hg) hd hN (lk_sub hag.sub hf) (lkAll_sub hag.sub ha) hgf hga hs hc).sub ret_sub

theorem ls_buildSlice {gate g : Bool} {d : Nat} {t : TypeId} {len : Nat} {parts : Array (Nat × Operand)} {xs : List Operand} {ti : TyI} {e sz by' : Nat} {rws : List (List C)} {R : Foot}
    (ho : o.op = .buildSlice t len parts) (hg : gateOf ops (rs R st) o = some gate) (hd : o.dst = some d) (hN : Nat.ble (d + 1) N = true) (ht : tyAt Z.T t = some ti) (hel : ti.el = some (e, sz, by')) (hp : parts.toList = enumO 0 xs) (hx : Nat.beq xs.length len = true)
    (hrs : rowsOf Z.T (rs R st) e sz xs = some (g, rws)) (hga : gate = true → g = true) (hbig : Nat.ble (len * sz) 10000 = true) :
    LS Z N ops o { d := some (d, gate, .v (.c (.sl sz rws))), drop := [.t d], gain := cond gate ((some sz).map fun sz => (.t d, sz)) none } R st :=
  fun _ hag _ => (op1_buildSlice ho (gateOf_sub hag.sub hg) hd hN ht hel hp hx (rowsOf_sub hag.sub hrs) hga hbig).sub ret_sub

theorem app_sub {s2 : St} {d k sz : Nat} {x : X} : Sub (ap { d := some (d, true, x), drop := [.t d, .t k], gain := some (.t d, sz) } s2) (s2.take d k x sz) where
  t := fun j e hj => by
    rw [ap_get] at hj
    show (s2.put d (true, x)).get j = _
    rw [St.put_get]
    simp only [Eff.gt] at hj
    by_cases h : d = j
    · subst h; simpa using hj
    · have h' : ¬ j = d := fun e => h e.symm
      simpa [h, h'] using hj
  bx := fun n cs hn => by rw [ap_box] at hn; exact hn
  ow := fun p s hp => by
    rw [ap_own] at hp
    unfold St.take
    rw [St.addOwn_own]
    simp only [Eff.go, List.mem_cons, List.not_mem_nil, or_false] at hp
    split
    · rename_i he; rw [if_pos he] at hp; exact hp
    · rename_i he
      rw [if_neg he] at hp
      rw [St.unown_own, St.put_own]
      split
      · rename_i h2; rw [if_pos (.inr h2)] at hp; exact hp
      · rename_i h2
        split
        · rename_i h3; rw [if_pos (.inl h3)] at hp; exact hp
        · rename_i h3; rw [if_neg (by rintro (h | h) <;> contradiction)] at hp; exact hp

theorem ls_append {d k : Nat} {x : Operand} {t : TypeId} {sz e by' : Nat} {es xs : List (List C)} {ti : TyI} {R : Foot} (ho : o.op = .call { callee := .builtin .append, args := #[.tmp k, x], argTypes := #[t, t] }) (hg : gateOf ops (rs R st) o = some true) (hd : o.dst = some d)
    (hs : (rs R st).get k = some (true, .v (.c (.sl sz es)))) (hw : (rs R st).own (.t k) = some sz) (hx : lk Z.T (rs R st) t x = some (true, .v (.c (.sl sz xs))))
    (ht : tyAt Z.T t = some ti) (hel : ti.el = some (e, sz, by')) (hN : Nat.ble (d + 1) N = true) (hkd : Nat.beq k d = false) (hbig : (es.length + xs.length) * by' ≤ 140737488355328) (hmax : es.length + xs.length ≤ 9223372036854775807) :
    LS Z N ops o { d := some (d, true, .v (.c (.sl sz (es ++ xs)))), drop := [.t d, .t k], gain := some (.t d, sz) } R st :=
  fun s2 hag _ => (op1_do (gateOf_sub hag.sub hg) (by rw [hd, ho]; exact does_append (hag.sub.t _ _ hs) (hag.sub.ow _ _ hw) (lk_sub hag.sub hx) ht hel hN hkd hbig hmax)).sub (app_sub (s2 := s2) (x := .v (.c (.sl sz (es ++ xs)))))

theorem ls_take {d k sz : Nat} {x : X} {R : Foot} (hop : o.op = .move (.tmp k) ∨ o.op = .assign (.tmp k)) (hg : gateOf ops (rs R st) o = some true) (hd : o.dst = some d) (h : (rs R st).get k = some (true, x)) (hw : (rs R st).own (.t k) = some sz) (hN : Nat.ble (d + 1) N = true) :
    LS Z N ops o { d := some (d, true, x), drop := [.t d, .t k], gain := some (.t d, sz) } R st :=
  fun s2 hag _ => (op1_do (gateOf_sub hag.sub hg) (by rw [hd]; exact does_take hop (hag.sub.t _ _ h) (hag.sub.ow _ _ hw) hN)).sub (app_sub (s2 := s2) (x := x))

/-- The places in a row of cells of a box. -/
def cellPls (n : Nm) (off : Nat) : Nat → List Pl
  | 0 => []
  | k + 1 => .b n off :: cellPls n (off + 1) k
theorem mem_cellPls {n : Nm} {p : Pl} : ∀ {len off : Nat}, p ∈ cellPls n off len ↔ Pl.inCells n off len p = true
  | 0, off => by
    cases p with
    | t k => simp [cellPls, Pl.inCells]
    | b m k =>
      simp only [cellPls, List.not_mem_nil, false_iff, Pl.inCells, Bool.and_eq_true, not_and]
      intro _ h1 h2
      have := Nat.le_of_ble_eq_true h1
      have := Nat.le_of_ble_eq_true h2
      omega
  | len + 1, off => by
    simp only [cellPls, List.mem_cons, mem_cellPls (len := len) (off := off + 1)]
    cases p with
    | t k => simp [Pl.inCells]
    | b m k =>
      simp only [Pl.inCells, Bool.and_eq_true, Nm.beq_iff, Pl.b.injEq]
      constructor
      · rintro (⟨rfl, rfl⟩ | ⟨h1, h2, h3⟩)
        · exact ⟨rfl, Nat.ble_eq_true_of_le (Nat.le_refl _), Nat.ble_eq_true_of_le (by omega)⟩
        · have := Nat.le_of_ble_eq_true h2
          have := Nat.le_of_ble_eq_true h3
          exact ⟨h1, Nat.ble_eq_true_of_le (by omega), Nat.ble_eq_true_of_le (by omega)⟩
      · rintro ⟨h1, h2, h3⟩
        have := Nat.le_of_ble_eq_true h2
        have := Nat.le_of_ble_eq_true h3
        by_cases hk : k = off
        · exact .inl ⟨h1, hk⟩
        · exact .inr ⟨h1, Nat.ble_eq_true_of_le (by omega), Nat.ble_eq_true_of_le (by omega)⟩

theorem store_sub {s2 : St} {n : Nm} {cs : List C} {off len : Nat} : Sub (ap { b := some (n, cs), drop := cellPls n off len } s2) (s2.store n cs off len) where
  t := fun j e hj => by rw [ap_get] at hj; exact hj
  bx := fun m ds hm => by
    rw [ap_box] at hm
    rw [St.store_box]
    simp only [Eff.gb] at hm
    split
    · rename_i he; rw [if_pos he] at hm; exact hm
    · rename_i he; rw [if_neg he] at hm; exact hm
  ow := fun p s hp => by
    rw [ap_own] at hp
    rw [St.store_own]
    simp only [Eff.go] at hp
    split
    · rename_i he; rw [if_pos (mem_cellPls.2 he)] at hp; exact hp
    · rename_i he; rw [if_neg (fun h => he (mem_cellPls.1 h))] at hp; exact hp

theorem ls_store {t : TypeId} {x v : Operand} {n : Nm} {off : Nat} {y : Y} {cs ds : List C} {ti : TyI} {R : Foot} (ho : o.op = .store t x v) (hg : gateOf ops (rs R st) o = some true) (hd : o.dst = none)
    (hx : lk Z.T (rs R st) t x = some (true, .v (.ptr n off))) (hv : lk Z.T (rs R st) t v = some (true, .v y)) (hc : y.cells = some ds)
    (hb : (rs R st).box n = some cs) (ht : tyAt Z.T t = some ti) (hn : ds.length = ti.n) (hl : Nat.ble (off + ds.length) cs.length = true) (hnb : (!n.isBd || !Nat.beq off 0) = true := by rfl) :
    LS Z N ops o { b := some (n, setAt cs off ds), drop := cellPls n off ds.length } R st :=
  fun _ hag _ => (op1_do (gateOf_sub hag.sub hg) (by rw [hd, ho]; exact does_store (lk_sub hag.sub hx) (lk_sub hag.sub hv) hc (hag.sub.bx _ _ hb) ht hn hl hnb)).sub store_sub

theorem ls_loadTake {d : Nat} {t : TypeId} {x : Operand} {n : Nm} {off : Nat} {ti : TyI} {cs : List C} {c : C} {sz : Nat} {R : Foot} (ho : o.op = .load t x) (hg : gateOf ops (rs R st) o = some true) (hd : o.dst = some d) (h : lk Z.T (rs R st) o.type x = some (true, .v (.ptr n off)))
    (ht : tyAt Z.T t = some ti) (hagg : ti.agg = false) (hb : (rs R st).box n = some cs) (hc : cs[off]? = some c) (hw : (rs R st).own (.b n off) = some sz) (hN : Nat.ble (d + 1) N = true) :
    LS Z N ops o { d := some (d, true, .v (.c c)), drop := [.t d, .b n off], gain := some (.t d, sz) } R st := by
  intro s2 hag _
  refine (op1_do (gateOf_sub hag.sub hg) (by rw [hd, ho]; exact does_loadTake (lk_sub hag.sub h) ht hagg (hag.sub.bx _ _ hb) hc (hag.sub.ow _ _ hw) hN)).sub ⟨?_, ?_, ?_, by exact .inr rfl⟩
  · intro j e hj
    rw [ap_get] at hj
    show (s2.put d (true, .v (.c c))).get j = _
    rw [St.put_get]
    simp only [Eff.gt] at hj
    by_cases h : d = j
    · subst h; simpa using hj
    · have h' : ¬ j = d := fun e => h e.symm
      simpa [h, h'] using hj
  · intro n cs hn; rw [ap_box] at hn; exact hn
  · intro p s hp
    rw [ap_own] at hp
    rw [St.addOwn_own]
    simp only [Eff.go, List.mem_cons, List.not_mem_nil, or_false] at hp
    split
    · rename_i he; rw [if_pos he] at hp; exact hp
    · rename_i he
      rw [if_neg he] at hp
      rw [St.unown_own, St.put_own]
      split
      · rename_i h2; rw [if_pos (.inr h2)] at hp; exact hp
      · rename_i h2
        split
        · rename_i h3; rw [if_pos (.inl h3)] at hp; exact hp
        · rename_i h3; rw [if_neg (by rintro (h | h) <;> contradiction)] at hp; exact hp

theorem ls_storeOwn {t : TypeId} {x : Operand} {k : Nat} {n : Nm} {off : Nat} {c : C} {cs : List C} {ti : TyI} {sz : Nat} {R : Foot} (ho : o.op = .store t x (.tmp k)) (hg : gateOf ops (rs R st) o = some true) (hd : o.dst = none)
    (hx : lk Z.T (rs R st) t x = some (true, .v (.ptr n off))) (hv : (rs R st).get k = some (true, .v (.c c)))
    (hb : (rs R st).box n = some cs) (ht : tyAt Z.T t = some ti) (hn : ti.n = 1) (hl : Nat.ble (off + 1) cs.length = true) (hw : (rs R st).own (.t k) = some sz) (hnb : n.isBd = false := by rfl) :
    LS Z N ops o { b := some (n, setAt cs off [c]), drop := [.t k, .b n off], gain := some (.b n off, sz) } R st := by
  intro s2 hag _
  refine (op1_do (gateOf_sub hag.sub hg) (by rw [hd, ho]; exact does_storeOwn (lk_sub hag.sub hx) (hag.sub.t _ _ hv) (hag.sub.bx _ _ hb) ht hn hl (hag.sub.ow _ _ hw) hnb)).sub ⟨?_, ?_, ?_, by exact .inr rfl⟩
  · intro j e hj; rw [ap_get] at hj; exact hj
  · intro m ds hm
    rw [ap_box] at hm
    show (s2.store n (setAt cs off [c]) off 1).box m = _
    rw [St.store_box]
    simp only [Eff.gb] at hm
    split
    · rename_i he; rw [if_pos he] at hm; exact hm
    · rename_i he; rw [if_neg he] at hm; exact hm
  · intro p s hp
    rw [ap_own] at hp
    rw [St.addOwn_own]
    simp only [Eff.go, List.mem_cons, List.not_mem_nil, or_false] at hp
    split
    · rename_i he; rw [if_pos he] at hp; exact hp
    · rename_i he
      rw [if_neg he] at hp
      rw [St.unown_own, St.store_own]
      split
      · rename_i h2; rw [if_pos (.inl h2)] at hp; exact hp
      · rename_i h2
        split
        · rename_i h3
          have h4 := mem_cellPls.2 h3
          simp [cellPls] at h4
          exact absurd h4.symm he
        · rename_i h3; rw [if_neg (by rintro (h | h); exact h2 h; exact he h.symm)] at hp; exact hp

/-! ### The driver's goal -/
def Draw (Z : Pg) (N : Nat) (s0 : St) (ops : Array Oper) (B : List Nat) (k : Nat) (rest : List Oper) (acc : List Lnk) (st : St) (Q : St → Prop) : Prop :=
  ∃ L sf, Chain Z N ops L st sf ∧ Nat.beq L.length rest.length = true ∧ linksB k L = true ∧ (pairsB B (acc ++ L) && nmB B (acc ++ L)) = true ∧ (∀ l ∈ L, ∀ n ∈ l.2.2.rn, s0.freshO n = true) ∧ Q sf

theorem dr_nil {s0 : St} {B : List Nat} {k : Nat} {acc : List Lnk} {Q : St → Prop} (hp : (pairsB B acc && nmB B acc) = true) (hQ : Q st) : Draw Z N s0 ops B k [] acc st Q :=
  ⟨[], st, Eqv.refl _, rfl, rfl, by simpa using hp, fun l hl => by simp at hl, hQ⟩
theorem dr_cons {s0 : St} {B : List Nat} {k : Nat} {rest : List Oper} {acc : List Lnk} {Q : St → Prop} {e : Eff} {R : Foot} (hk : ops[k]? = some o) (h : LS Z N ops o e R st) (hr : Draw Z N s0 ops B (k + 1) rest (acc ++ [(k, e, R)]) (ap e st) Q)
    (hf : ∀ n ∈ R.rn, s0.freshO n = true := by intro n hn; exact absurd hn (List.not_mem_nil)) : Draw Z N s0 ops B k (o :: rest) acc st Q := by
  obtain ⟨L, sf, h1, h2, h3, h4, h6, h5⟩ := hr
  refine ⟨(k, e, R) :: L, sf, ⟨⟨o, hk, h⟩, h1⟩, ?_, ?_, by simpa using h4, ?_, h5⟩
  · have := Nat.eq_of_beq_eq_true h2; simp [this]
  · simp only [linksB, Bool.and_eq_true]; exact ⟨by simp, h3⟩
  · intro l hl
    rcases List.mem_cons.1 hl with rfl | hl
    · exact hf
    · exact h6 l hl
theorem awp_drawn {Q : Exit → St → Prop} {id : Nat} {l : List Oper} (B : List Nat) (hcert : certB l.toArray B = true) (h : Draw Z N st l.toArray B 0 l [] st (Q .normal)) : AWP Z N (.region id l.toArray true) Q st := by
  obtain ⟨L, sf, h1, h2, h3, h4, h6, h5⟩ := h
  rw [Bool.and_eq_true] at h4
  exact awp_draw B h1 h2 h3 hcert (by simpa using h4.1) (by simpa using h4.2) (fun l hl n hn => St.freshO_ok (h6 l hl n hn)) h5
end
end Go.Abs
/- Calls that hand boxes on; the driver's words for drawn regions. -/
set_option linter.unusedVariables false
set_option linter.unusedSimpArgs false
namespace Go.Abs
variable {Z : Pg}

/-- What is handed on: the box, where in it, its whole content, and what stands there behind the call. -/
structure Pass where
  n : Nm
  off : Nat
  cs : List C
  ds : List C
def Pass.old (p : Pass) : List C := (p.cs.drop p.off).take p.ds.length
def St.stores (st : St) : List Pass → St
  | [] => st
  | p :: r => (st.store p.n (setAt p.cs p.off p.ds) p.off p.ds.length).stores r
def passB (st : St) : List Pass → Bool
  | [] => true
  | p :: r => (Nat.ble (p.off + p.ds.length) p.cs.length && !p.n.isBd) && (r.all fun q => !Nm.beq p.n q.n) && passB st r

def Y.tr (ps : List Pass) : Y → Y
  | .ptr (.o j) k => match ps[j]? with
    | some p => .ptr p.n (p.off + k)
    | none => .ptr (.o j) k
  | y => y
def X.tr (ps : List Pass) : X → X
  | .v z => .v (z.tr ps)
  | x => x
def Y.trOk (ps : List Pass) : Y → Bool
  | .ptr (.o j) _ => (ps[j]?).isSome
  | .ptr (.l _) _ => false
  | .ptr (.bd _ _) _ => false
  | .ms _ _ _ _ => false
  | .msv _ _ _ _ _ => false
  | _ => true
def X.trOk (ps : List Pass) : X → Bool
  | .v z => z.trOk ps
  | x => x.clean

theorem stores_get : ∀ (ps : List Pass) (st : St) (k : Nat), (st.stores ps).get k = st.get k
  | [], _, _ => rfl
  | p :: r, st, k => by rw [St.stores, stores_get r]; rfl
theorem stores_mp : ∀ (ps : List Pass) (st : St), (st.stores ps).mp = st.mp
  | [], _ => rfl
  | p :: r, st => by rw [St.stores, stores_mp r]; rfl
theorem stores_box_other : ∀ (ps : List Pass) (st : St) (m : Nm), (∀ p ∈ ps, p.n ≠ m) → (st.stores ps).box m = st.box m
  | [], _, _, _ => rfl
  | p :: r, st, m, h => by
    rw [St.stores, stores_box_other r _ m fun q hq => h q (by simp [hq]), St.store_box, if_neg (h p (by simp))]
theorem stores_box : ∀ (ps : List Pass) (st : St) (p : Pass), passB st ps = true → p ∈ ps → (st.stores ps).box p.n = some (setAt p.cs p.off p.ds)
  | [], _, _, _, h => by simp at h
  | q :: r, st, p, hb, h => by
    simp only [passB, Bool.and_eq_true] at hb
    rw [St.stores]
    rcases List.mem_cons.1 h with rfl | h
    · rw [stores_box_other r _ p.n fun q hq e => by
        have := List.all_eq_true.1 hb.1.2 q hq
        rw [e] at this; simp [Nm.beq_self] at this]
      rw [St.store_box, if_pos rfl]
    · have hb2 : passB (st.store q.n (setAt q.cs q.off q.ds) q.off q.ds.length) r = true := by
        have : ∀ (l : List Pass) (s s' : St), passB s l = passB s' l := by
          intro l; induction l with
          | nil => intro _ _; rfl
          | cons x l ih => intro s s'; simp only [passB, ih s s']
        rw [this r _ st]; exact hb.2
      exact stores_box r _ p hb2 h
theorem stores_own : ∀ (ps : List Pass) (st : St) (q : Pl) (sz : Nat), (st.stores ps).own q = some sz → st.own q = some sz ∧ ∀ p ∈ ps, Pl.inCells p.n p.off p.ds.length q = false
  | [], _, _, _, h => ⟨h, fun p hp => by simp at hp⟩
  | p :: r, st, q, sz, h => by
    rw [St.stores] at h
    obtain ⟨h1, h2⟩ := stores_own r _ q sz h
    rw [St.store_own] at h1
    split at h1
    · simp at h1
    · rename_i hin
      refine ⟨h1, fun x hx => ?_⟩
      rcases List.mem_cons.1 hx with rfl | hx
      · simpa using hin
      · exact h2 x hx

theorem passB_nodup : ∀ {ps : List Pass} {st : St}, passB st ps = true → ∀ (i j : Nat) (p q : Pass), ps[i]? = some p → ps[j]? = some q → p.n = q.n → i = j
  | [], _, _, i, _, p, _, h, _, _ => by simp at h
  | x :: r, st, hb, i, j, p, q, hi, hj, he => by
    simp only [passB, Bool.and_eq_true] at hb
    have hne : ∀ y ∈ r, x.n ≠ y.n := fun y hy e => by
      have := List.all_eq_true.1 hb.1.2 y hy
      rw [e] at this; simp [Nm.beq_self] at this
    cases i with
    | zero =>
      simp at hi; subst hi
      cases j with
      | zero => rfl
      | succ j => exact absurd he (hne q (List.mem_of_getElem? (by simpa using hj)))
    | succ i =>
      cases j with
      | zero =>
        simp at hj; subst hj
        exact absurd he.symm (hne p (List.mem_of_getElem? (by simpa using hi)))
      | succ j =>
        have := passB_nodup hb.2 i j p q (by simpa using hi) (by simpa using hj) he
        omega
theorem passB_len : ∀ {ps : List Pass} {st : St}, passB st ps = true → ∀ p ∈ ps, p.off + p.ds.length ≤ p.cs.length
  | [], _, _, p, h => by simp at h
  | x :: r, st, hb, p, h => by
    simp only [passB, Bool.and_eq_true] at hb
    rcases List.mem_cons.1 h with rfl | h
    · exact Nat.le_of_ble_eq_true hb.1.1.1
    · exact passB_len hb.2 p h
theorem passB_bd : ∀ {ps : List Pass} {st : St}, passB st ps = true → ∀ p ∈ ps, p.n.isBd = false
  | [], _, _, p, h => by simp at h
  | x :: r, st, hb, p, h => by
    simp only [passB, Bool.and_eq_true, Bool.not_eq_true'] at hb
    rcases List.mem_cons.1 h with rfl | h
    · exact hb.1.1.2
    · exact passB_bd hb.2 p h

theorem setAt_get (cs : List C) : ∀ (ds : List C) (off : Nat) (j : Nat), off + ds.length ≤ cs.length → (setAt cs off ds)[j]? = if off ≤ j ∧ j < off + ds.length then ds[j - off]? else cs[j]? := by
  intro ds
  induction ds generalizing cs with
  | nil => intro off j _; rw [if_neg (by simp only [List.length_nil]; omega)]; rfl
  | cons d ds ih =>
    intro off j h
    simp only [List.length_cons] at h
    rw [setAt, ih (cs.set off d) (off + 1) j (by simp; omega)]
    by_cases hj : off + 1 ≤ j ∧ j < off + 1 + ds.length
    · rw [if_pos hj, if_pos (by simp only [List.length_cons]; omega), show j - off = (j - (off + 1)) + 1 by omega]; simp
    · rw [if_neg hj]
      by_cases he : j = off
      · subst he
        rw [if_pos (by simp only [List.length_cons]; omega), List.getElem?_set_self (by omega)]; simp
      · rw [if_neg (by simp only [List.length_cons]; omega), List.getElem?_set_ne (fun e => he e.symm)]

/-- A world behind a call that may have written boxes. -/
theorem Rel.after {E : Env} {G G2 : Gh} {st st2 : St} {a : Act} {w w' : World} {M : Nat → Nat → Prop} (h : Rel E G st a w) (hf : Fr M w.heap.size w w') (hW : ∀ b o, b < w.heap.size → G2.W b o = G.W b o) (hA : G2.A = G.A)
    (hwf : ∀ b o, G2.W b o ≠ .none → b < w'.heap.size) (ht : ∀ k e, st2.get k = some e → st.get k = some e) (hM : ∀ b o, M b o → ∃ n, G.W b o = .box n) (hb : ∀ n cs, st2.box n = some cs → BoxAt w' G2 n cs)
    (ho : ∀ p sz, st2.own p = some sz → st.own p = some sz ∧ ∀ n off, p = .b n off → ¬ M (G.A n).1 ((G.A n).2 + off))
    (hbd : ∀ t k cs, st2.box (.bd t k) = some cs → cs ≠ [] → (G2.A (.bd t k)).2 = 0 ∧ w'.shape? (G2.A (.bd t k)).1 = some (t / 4096, 2) ∧ ∃ x, w'.cell? ⟨(G2.A (.bd t k)).1, 0, none⟩ = some (.pointer x) ∧ (x = none ∨ x = some ⟨(G2.A (.bd t k)).1, 0, none⟩)) (hmp : st2.mp = st.mp) : Rel E G2 st2 a w' := by
  have hB : E.B ≤ w.heap.size := Nat.le_trans h.hB h.fr.size
  have hS : ∀ b o, G.S b o → G2.S b o := fun b o hs => by
    unfold Gh.S at *
    rw [hW b o (h.wf b o (by rw [hs]; simp))]
    exact hs
  have hnM : ∀ b o, (∀ n, G.W b o ≠ .box n) → ¬ M b o := fun b o hn hm => by
    obtain ⟨n, hn'⟩ := hM b o hm; exact hn n hn'
  have hcS : ∀ b o, G.S b o → w'.cell? ⟨b, o, none⟩ = w.cell? ⟨b, o, none⟩ := fun b o hs => by
    unfold Gh.S at hs
    exact hf.cell b o (h.wf b o (by rw [hs]; simp)) (hnM b o fun n => by rw [hs]; simp)
  constructor
  · exact h.df
  · intro k g x hk
    obtain ⟨v, hv, h1, h2⟩ := h.tm k g x (ht k _ hk)
    exact ⟨v, hv, fun hg => (h1 hg).mono hS hcS (fun _ _ => by rw [hA]), h2⟩
  · exact hb
  · intro p sz hp
    obtain ⟨hp1, hp2⟩ := ho p sz hp
    obtain ⟨v, hv, hov⟩ := h.ow p sz hp1
    refine ⟨v, ?_, ?_⟩
    · cases p with
      | t k => exact hv
      | b n off =>
        have hlt := ValAt.lt h hp1 rfl
        show w'.cell? _ = _ ∧ G2.W _ _ = _
        rw [hA, hf.cell _ _ hlt (hp2 n off rfl), hW _ _ hlt]
        exact hv
    · rcases hov with hov | ⟨blk, len, cap, e, h1, h2, h3, h4⟩
      · exact .inl hov
      · by_cases hz : len * sz < cap * sz
        · have hlt := h.wf blk (len * sz) (by rw [(h4 _ (Nat.le_refl _) hz).1]; simp)
          exact .inr ⟨blk, len, cap, e, h1, h2, ⟨by rw [hf.shape blk hlt]; exact h3.1, by rw [hf.mark blk hlt]; exact h3.2⟩, fun o ho1 ho2 => by
            rw [hW blk o hlt, hf.frozen blk o hlt]; exact h4 o ho1 ho2⟩
        · have hlt : blk < w.heap.size := by
            rcases Nat.lt_or_ge blk w.heap.size with hx | hx
            · exact hx
            · have h3 := h3.1; simp [World.shape?, Array.getElem?_eq_none hx] at h3
          exact .inr ⟨blk, len, cap, e, h1, h2, ⟨by rw [hf.shape blk hlt]; exact h3.1, by rw [hf.mark blk hlt]; exact h3.2⟩, fun o ho1 ho2 => by omega⟩
  · exact hwf
  · intro b o n hb' hn
    rw [hW b o (by omega)] at hn
    exact h.olB b o n hb' hn
  · intro b o p hb' hn
    rw [hW b o (by omega)] at hn
    exact h.olO b o p hb' hn
  · exact h.nt
  · exact fun j => by rw [hA]; exact h.oA j
  · intro b o hi
    exact hS b o (h.im b o hi)
  · intro b o hb' hi
    rw [hW b o (by omega)] at hi
    exact h.im' b o hb' hi
  · refine h.fr.trans (hf.mono hB fun b o hb' hm => ?_)
    obtain ⟨n, hn⟩ := hM b o hm
    exact h.olB b o n hb' hn
  · exact h.hB
  · intro b o hb'
    rw [hW b o (by omega)]
    exact h.lo b o hb'
  · exact hbd
  · intro x hx
    rw [hmp] at hx
    obtain ⟨q1, q2, q3⟩ := h.mp x hx
    have hlt := q1.lt
    exact ⟨q1.of_same (hf.block _ hlt fun o hm => by obtain ⟨n, hn⟩ := hM _ o hm; exact (q3 o).1 n hn), q2, fun o => by rw [hW _ o hlt]; exact q3 o⟩

/-- The ghost that a callee with boxes sees. -/
def Gh.passed (G : Gh) (ps : List Pass) : Gh where
  W := fun b o => match G.W b o with
    | .imm => .imm
    | .box n => (match (List.range ps.length).find? fun j => (match ps[j]? with
        | some p => Nm.beq p.n n && (Nat.beq b (G.A n).1 && (Nat.ble ((G.A n).2 + p.off) o && Nat.ble (o + 1) ((G.A n).2 + p.off + p.ds.length)))
        | none => false) with
      | some j => .box (.o j)
      | none => .none)
    | _ => .none
  A := fun n => match n with
    | .o j => (match ps[j]? with
      | some p => ((G.A p.n).1, (G.A p.n).2 + p.off)
      | none => (0, 0))
    | .l k => G.A (.l k)
    | .bd t k => G.A (.bd t k)

theorem Gh.passed_imm (G : Gh) (ps : List Pass) (b o : Nat) : (G.passed ps).W b o = .imm ↔ G.W b o = .imm := by
  unfold Gh.passed
  dsimp only
  cases hw : G.W b o with
  | imm => simp
  | none => simp
  | own p => simp
  | box n => dsimp only; split <;> simp
theorem Gh.passed_own (G : Gh) (ps : List Pass) (b o : Nat) (p : Pl) : (G.passed ps).W b o ≠ .own p := by
  unfold Gh.passed
  dsimp only
  cases hw : G.W b o with
  | imm => simp
  | none => simp
  | own p => simp
  | box n => dsimp only; split <;> simp
theorem Gh.passed_box {G : Gh} {ps : List Pass} {b o : Nat} {m : Nm} (h : (G.passed ps).W b o = .box m) : ∃ (j : Nat) (p : Pass), m = .o j ∧ ps[j]? = some p ∧ G.W b o = .box p.n ∧ b = (G.A p.n).1 ∧ (G.A p.n).2 + p.off ≤ o ∧ o < (G.A p.n).2 + p.off + p.ds.length := by
  unfold Gh.passed at h
  dsimp only at h
  cases hw : G.W b o with
  | imm => rw [hw] at h; simp at h
  | none => rw [hw] at h; simp at h
  | own p => rw [hw] at h; simp at h
  | box n =>
    rw [hw] at h
    dsimp only at h
    split at h
    · rename_i j hj
      have := List.find?_some hj
      cases hp : ps[j]? with
      | none => rw [hp] at this; simp at this
      | some p =>
        rw [hp] at this
        simp only [Bool.and_eq_true] at this
        obtain ⟨h1, h2, h3, h4⟩ := this
        rw [Nm.beq_iff] at h1
        subst h1
        simp only [Who.box.injEq] at h
        exact ⟨j, p, h.symm, hp, rfl, Nat.eq_of_beq_eq_true h2, Nat.le_of_ble_eq_true h3, Nat.le_of_ble_eq_true h4⟩
    · simp at h
theorem Gh.passed_at {G : Gh} {ps : List Pass} {st : St} (hnd : passB st ps = true) {j : Nat} {p : Pass} (hj : ps[j]? = some p) {k : Nat} (hk : k < p.ds.length) (hw : G.W (G.A p.n).1 ((G.A p.n).2 + p.off + k) = .box p.n) :
    (G.passed ps).W (G.A p.n).1 ((G.A p.n).2 + p.off + k) = .box (.o j) := by
  unfold Gh.passed
  dsimp only
  rw [hw]
  dsimp only
  split
  · rename_i i hi
    have := List.find?_some hi
    cases hp : ps[i]? with
    | none => rw [hp] at this; simp at this
    | some q =>
      rw [hp] at this
      simp only [Bool.and_eq_true, Nm.beq_iff] at this
      rw [passB_nodup hnd i j q p hp hj this.1]
  · rename_i hnone
    exfalso
    rw [List.find?_eq_none] at hnone
    have hjl : j < ps.length := (List.getElem?_eq_some_iff.1 hj).1
    have := hnone j (List.mem_range.2 hjl)
    rw [hj] at this
    apply this
    simp only [Bool.and_eq_true]
    exact ⟨Nm.beq_self _, by simp, Nat.ble_eq_true_of_le (by omega), Nat.ble_eq_true_of_le (by omega)⟩

theorem All2.map_left {α β γ : Type} {R : β → γ → Prop} {f : α → β} : ∀ {us : List α} {bs : List γ}, All2 R (us.map f) bs → All2 (fun a b => R (f a) b) us bs
  | [], [], _ => trivial
  | _ :: _, _ :: _, h => ⟨h.1, All2.map_left h.2⟩
  | [], _ :: _, h => h.elim
  | _ :: _, [], h => h.elim

def trAll (ps : List Pass) (xs : List X) : Bool := xs.all (·.trOk ps)

theorem YRep.tr {w : World} {G : Gh} {ps : List Pass} {y : Y} {v : Value} (hok : y.trOk ps = true) (h : YRep w G (y.tr ps) v) : YRep w (G.passed ps) y v := by
  have hS : ∀ b o, G.S b o → (G.passed ps).S b o := fun b o hs => (G.passed_imm ps b o).2 hs
  cases y with
  | c x => exact CRep.mono hS (fun _ _ _ => rfl) h
  | agg cs => obtain ⟨vs, h1, h2⟩ := h; exact ⟨vs, h1, h2.mono fun _ _ => CRep.mono hS (fun _ _ _ => rfl)⟩
  | ro cs => obtain ⟨blk, off, h1, h2⟩ := h; exact ⟨blk, off, h1, h2.mono hS (fun _ _ _ => rfl)⟩
  | ptr n off =>
    cases n with
    | l k => simp [Y.trOk] at hok
    | bd t k => simp [Y.trOk] at hok
    | o j =>
      simp only [Y.trOk] at hok
      cases hp : ps[j]? with
      | none => rw [hp] at hok; simp at hok
      | some p =>
        simp only [Y.tr, hp, YRep] at h
        simp only [YRep, Gh.passed, hp]
        rw [h, Nat.add_assoc]
  | ms n sz off len => simp [Y.trOk] at hok
  | msv n sz off len u => simp [Y.trOk] at hok
theorem XRep.tr {w : World} {G : Gh} {ps : List Pass} {x : X} {v : Value} (hok : x.trOk ps = true) (h : XRep w G (x.tr ps) v) : XRep w (G.passed ps) x v := by
  have hS : ∀ b o, G.S b o → (G.passed ps).S b o := fun b o hs => (G.passed_imm ps b o).2 hs
  cases x with
  | v z => exact YRep.tr hok h
  | tup ys =>
    have hok' : X.clean (.tup ys) = true := hok
    exact XRep.mono hS (fun _ _ _ => rfl) (fun n hn => by rw [X.clean_has hok' n] at hn; simp at hn) h
  | fn f caps =>
    have hok' : X.clean (.fn f caps) = true := hok
    exact XRep.mono hS (fun _ _ _ => rfl) (fun n hn => by rw [X.clean_has hok' n] at hn; simp at hn) h

/-- A call of a function that is handed boxes (not under a guard). -/
theorem op1_callB {N : Nat} {ops : Array Oper} {st : St} {o : Oper} {fo : Operand} {args : Array Operand} {ts : Array TypeId} {f : FuncId} {xs cxs : List X} {res : X} {ps : List Pass} {dst : Option Nat} {fin : St}
    (ho : o.op = .call { callee := .value fo, args := args, argTypes := ts }) (hg : gateOf ops st o = some true)
    (hf : lk Z.T st 0 fo = some (true, .fn f [])) (ha : lkAll Z.T st ts.toList args.toList = some (true, xs)) (htr : cxs.map (X.tr ps) = xs) (htrok : trAll ps cxs = true)
    (hps : ∀ p ∈ ps, st.box p.n = some p.cs) (hnd : passB st ps = true)
    (hs : Ctr Z f cxs (ps.map Pass.old) res none (ps.map Pass.ds)) (hc : res.clean = true) (hd : o.dst = dst)
    (hfin : match dst with | some d => Nat.ble (d + 1) N = true ∧ fin = (st.stores ps).put d (true, res) | none => fin = st.stores ps) : Op1 Z N ops o st fin := by
  intro E G a w hr hE K' Q' hK
  rw [wanted_gate hr hg]
  simp only [if_true]
  obtain ⟨cvs, hfv, hcv⟩ := lk_rep hr hf rfl
  have hcv0 : cvs = [] := by cases cvs with
    | nil => rfl
    | cons _ _ => exact hcv.elim
  subst hcv0
  have hav := lkAll_rep hr ha rfl
  obtain ⟨hen, hsp⟩ := hs
  unfold Oper.wp
  rw [run_call ho hfv hen, Oper.upon_enter]
  rw [← htr] at hav
  have hlen := passB_len hnd
  have hav2 : All2 (XRep w (G.passed ps)) cxs (args.toList.map a.eval) :=
    All2.mem_mono (fun x v hx hxv => XRep.tr (List.all_eq_true.1 htrok x hx) hxv) (All2.map_left hav)
  have hbox : ∀ (j : Nat) (p : Pass), ps[j]? = some p → BoxAt w G p.n p.cs := fun j p hj => hr.bx p.n p.cs (hps p (List.mem_of_getElem? hj))
  rw [List.append_nil]
  refine (hsp w (G.passed ps) _ hav2 ?_ ?_ ?_ (fun b o' p => G.passed_own ps b o' p) (fun g hg => ⟨(hE.at hr g hg).1, (hE.at hr g hg).2.1, fun o n hn => by
    obtain ⟨j, p, _, _, q, _⟩ := Gh.passed_box hn
    exact (hE.at hr g hg).2.2.1 o _ q, fun o p => G.passed_own ps g.1 o p⟩)).mono ?_
  · intro b o' hb
    refine hr.wf b o' ?_
    intro e
    apply hb
    unfold Gh.passed
    dsimp only
    rw [e]
  · intro j cs hj k c hk
    rw [List.getElem?_map] at hj
    cases hp : ps[j]? with
    | none => rw [hp] at hj; simp at hj
    | some p =>
      rw [hp] at hj
      simp only [Option.map_some, Option.some.injEq] at hj
      subst hj
      unfold Pass.old at hk
      rw [List.getElem?_take] at hk
      split at hk
      · rename_i hkl
        rw [List.getElem?_drop] at hk
        obtain ⟨h1, h2, v, h3, h4⟩ := hbox j p hp _ c hk
        have hA : (G.passed ps).A (.o j) = ((G.A p.n).1, (G.A p.n).2 + p.off) := by simp [Gh.passed, hp]
        rw [hA]
        rw [← Nat.add_assoc] at h1 h2 h3
        exact ⟨Gh.passed_at hnd hp hkl h1, h2, v, h3, h4.mono (fun b o' hs => (G.passed_imm ps b o').2 hs) (fun _ _ _ => rfl)⟩
      · simp at hk
  · intro b o' n hn
    obtain ⟨j, p, rfl, hp, hw, h1, h2, h3⟩ := Gh.passed_box hn
    have hpl := hlen p (List.mem_of_getElem? hp)
    refine ⟨j, p.old, o' - ((G.A p.n).2 + p.off), rfl, by rw [List.getElem?_map, hp]; rfl, ?_, ?_, ?_⟩
    · simp only [Pass.old, List.length_take, List.length_drop]; omega
    · simp [Gh.passed, hp, h1]
    · simp only [Gh.passed, hp]; omega
  · rintro e w' ⟨v, G', rfl, hfr, h1, h2, h3, h4, h5, h6, h7, h8⟩
    dsimp only
    have g2 : ∀ b o', b < w.heap.size → G'.W b o' = .imm → G.W b o' = .imm := fun b o' hb hi => (G.passed_imm ps b o').1 (h2 b o' hb hi)
    let G2 := G.back G' w.heap.size .none
    have hS2 : ∀ b o', G'.S b o' → G2.S b o' := fun b o' => Gh.back_imm g2 b o'
    have hW2 : ∀ b o', b < w.heap.size → G2.W b o' = G.W b o' := fun b o' hb => by simp [G2, Gh.back, hb]
    have hrel : Rel E G2 (st.stores ps) a w' := by
      refine hr.after (M := fun b o' => ∃ n, (G.passed ps).W b o' = .box n) hfr hW2 rfl ?_ (fun k e hk => by rw [stores_get] at hk; exact hk) ?_ ?_ ?_ ?_ (stores_mp ps st)
      · intro b o' hb
        dsimp only [G2, Gh.back] at hb
        split at hb
        · rename_i hlt; exact Nat.lt_of_lt_of_le hlt hfr.size
        · refine h3 b o' ?_
          intro e; rw [e] at hb; simp at hb
      · rintro b o' ⟨n, hn⟩
        obtain ⟨j, p, _, _, hw, _⟩ := Gh.passed_box hn
        exact ⟨_, hw⟩
      · intro n cs hn
        by_cases hin : ∃ p ∈ ps, p.n = n
        · obtain ⟨p, hp, rfl⟩ := hin
          rw [stores_box ps st p hnd hp] at hn
          simp only [Option.some.injEq] at hn
          subst hn
          obtain ⟨j, hj⟩ := List.getElem?_of_mem hp
          have hpl := hlen p hp
          intro k c hk
          rw [setAt_get p.cs p.ds p.off k hpl] at hk
          have hA2 : G2.A p.n = G.A p.n := rfl
          rw [hA2]
          have hkl : k < p.cs.length := by
            split at hk
            · rename_i hh; omega
            · exact (List.getElem?_eq_some_iff.1 hk).1
          obtain ⟨q1, q2, u, q3, q4⟩ := hbox j p hj k _ (List.getElem?_eq_getElem hkl)
          have hlt : (G.A p.n).1 < w.heap.size := World.block_lt_of_cell? (a := ⟨(G.A p.n).1, (G.A p.n).2 + k, none⟩) w q3
          refine ⟨by rw [hW2 _ _ hlt]; exact q1, by rw [hfr.frozen _ _ hlt]; exact q2, ?_⟩
          split at hk
          · rename_i hh
            have hb := h6 j p.ds (by rw [List.getElem?_map, hj]; rfl) (k - p.off) c hk
            rw [h5 j] at hb
            have hA : (G.passed ps).A (.o j) = ((G.A p.n).1, (G.A p.n).2 + p.off) := by simp [Gh.passed, hj]
            rw [hA] at hb
            obtain ⟨_, _, u', b3, b4⟩ := hb
            dsimp only at b3
            rw [show (G.A p.n).2 + p.off + (k - p.off) = (G.A p.n).2 + k by omega] at b3
            exact ⟨u', b3, b4.mono hS2 (fun _ _ _ => rfl)⟩
          · rename_i hh
            rw [List.getElem?_eq_getElem hkl] at hk
            simp only [Option.some.injEq] at hk
            subst hk
            refine ⟨u, ?_, q4.mono (fun b o' hs => ?_) (fun b o' hs => ?_)⟩
            · rw [hfr.cell _ _ hlt]
              · exact q3
              · rintro ⟨n, hn⟩
                obtain ⟨i, q, _, hq, hw, r1, r2, r3⟩ := Gh.passed_box hn
                rw [q1] at hw
                simp only [Who.box.injEq] at hw
                have := passB_nodup hnd i j q p hq hj hw.symm
                subst this
                rw [hj] at hq
                simp only [Option.some.injEq] at hq
                subst hq
                omega
            · exact hS2 b o' (h1 b o' ((G.passed_imm ps b o').2 hs))
            · have hlt' := hr.wf b o' (by unfold Gh.S at hs; rw [hs]; simp)
              refine hfr.cell b o' hlt' ?_
              rintro ⟨n, hn⟩
              obtain ⟨_, _, _, _, hw, _⟩ := Gh.passed_box hn
              unfold Gh.S at hs
              rw [hs] at hw; simp at hw
        · rw [stores_box_other ps st n (fun p hp e => hin ⟨p, hp, e⟩)] at hn
          intro k c hk
          obtain ⟨q1, q2, u, q3, q4⟩ := hr.bx n cs hn k c hk
          have hlt : (G.A n).1 < w.heap.size := World.block_lt_of_cell? (a := ⟨(G.A n).1, (G.A n).2 + k, none⟩) w q3
          have hA2 : G2.A n = G.A n := rfl
          rw [hA2]
          refine ⟨by rw [hW2 _ _ hlt]; exact q1, by rw [hfr.frozen _ _ hlt]; exact q2, u, ?_, q4.mono (fun b o' hs => ?_) (fun b o' hs => ?_)⟩
          · rw [hfr.cell _ _ hlt]
            · exact q3
            · rintro ⟨m, hm⟩
              obtain ⟨i, q, _, hq, hw, _⟩ := Gh.passed_box hm
              rw [q1] at hw
              simp only [Who.box.injEq] at hw
              exact hin ⟨q, List.mem_of_getElem? hq, hw.symm⟩
          · exact hS2 b o' (h1 b o' ((G.passed_imm ps b o').2 hs))
          · have hlt' := hr.wf b o' (by unfold Gh.S at hs; rw [hs]; simp)
            refine hfr.cell b o' hlt' ?_
            rintro ⟨n, hn⟩
            obtain ⟨_, _, _, _, hw, _⟩ := Gh.passed_box hn
            unfold Gh.S at hs
            rw [hs] at hw; simp at hw
      · intro p sz hp
        obtain ⟨hp1, hp2⟩ := stores_own ps st p sz hp
        refine ⟨hp1, ?_⟩
        rintro n off rfl ⟨m, hm⟩
        obtain ⟨i, q, _, hq, hw, r1, r2, r3⟩ := Gh.passed_box hm
        obtain ⟨u, hu, _⟩ := hr.ow _ _ hp1
        rw [hu.2] at hw
        simp only [Who.box.injEq] at hw
        subst hw
        have := hp2 q (List.mem_of_getElem? hq)
        simp only [Pl.inCells, Nm.beq_self, Bool.true_and, Bool.and_eq_false_iff] at this
        rcases this with this | this
        · have : ¬ q.off ≤ off := fun hle => by rw [Nat.ble_eq_true_of_le hle] at this; simp at this
          omega
        · have : ¬ off + 1 ≤ q.off + q.ds.length := fun hle => by rw [Nat.ble_eq_true_of_le hle] at this; simp at this
          omega
      · intro t k cs hn hne
        have hnp : ∀ p ∈ ps, p.n ≠ .bd t k := fun p hp e => by
          have := passB_bd hnd p hp
          rw [e] at this; simp [Nm.isBd] at this
        rw [stores_box_other ps st _ hnp] at hn
        obtain ⟨q1, q2, x, q3, q4⟩ := hr.bd t k cs hn hne
        have hlt : (G.A (.bd t k)).1 < w.heap.size := World.block_lt_of_cell? (a := ⟨(G.A (.bd t k)).1, 0, none⟩) w q3
        obtain ⟨c0, hc0⟩ : ∃ c0, cs[0]? = some c0 := by
          cases cs with
          | nil => exact absurd rfl hne
          | cons c0 r => exact ⟨c0, rfl⟩
        obtain ⟨r1, _⟩ := hr.bx _ cs hn 0 c0 hc0
        rw [q1] at r1
        have hA2 : G2.A (.bd t k) = G.A (.bd t k) := rfl
        rw [hA2, hfr.shape _ hlt]
        refine ⟨q1, q2, x, ?_, q4⟩
        rw [hfr.cell _ _ hlt]
        · exact q3
        · rintro ⟨m, hm⟩
          obtain ⟨i, q, _, hq, hw, _⟩ := Gh.passed_box hm
          rw [r1] at hw
          simp only [Who.box.injEq] at hw
          exact hnp q (List.mem_of_getElem? hq) hw.symm
    have hX : XRep w' G2 res v := h4.mono hS2 (fun _ _ _ => rfl) (fun n hn => by rw [X.clean_has hc n] at hn; simp at hn)
    rw [hd] at hK ⊢
    cases dst with
    | none =>
      dsimp only at hfin
      subst hfin
      exact hK G2 v w' hrel
    | some d =>
      dsimp only at hfin
      obtain ⟨hN, rfl⟩ := hfin
      have hdN : d < E.nt := by rw [hE.nt]; exact Nat.le_of_ble_eq_true hN
      exact hK G2 v w' (hrel.put hdN (g := true) (fun _ => hX) (fun hf => by simp at hf))


theorem ls_callB {N : Nat} {ops : Array Oper} {st : St} {o : Oper} {fo : Operand} {args : Array Operand} {ts : Array TypeId} {f : FuncId} {xs cxs : List X} {res : X} {p : Pass} {d : Nat} {R : Foot}
    (ho : o.op = .call { callee := .value fo, args := args, argTypes := ts }) (hg : gateOf ops (rs R st) o = some true)
    (hf : lk Z.T (rs R st) 0 fo = some (true, .fn f [])) (ha : lkAll Z.T (rs R st) ts.toList args.toList = some (true, xs)) (htr : cxs.map (X.tr [p]) = xs) (htrok : trAll [p] cxs = true)
    (hps : (rs R st).box p.n = some p.cs) (hnd : Nat.ble (p.off + p.ds.length) p.cs.length = true)
    (hs : Ctr Z f cxs [p.old] res none [p.ds]) (hc : res.clean = true) (hd : o.dst = some d) (hN : Nat.ble (d + 1) N = true) (hnb : p.n.isBd = false := by rfl) :
    LS Z N ops o { d := some (d, true, res), b := some (p.n, setAt p.cs p.off p.ds), drop := .t d :: cellPls p.n p.off p.ds.length } R st := by
  intro s2 hag _
  refine (op1_callB (ps := [p]) (st := s2) ho (gateOf_sub hag.sub hg) (lk_sub hag.sub hf) (lkAll_sub hag.sub ha) htr htrok (fun q hq => by simp at hq; subst hq; exact hag.sub.bx _ _ hps) (by simp [passB, hnd, hnb]) hs hc hd ⟨hN, rfl⟩).sub ⟨?_, ?_, ?_, by exact .inr rfl⟩
  · intro j e hj
    rw [ap_get] at hj
    rw [St.put_get, stores_get]
    simp only [Eff.gt] at hj
    by_cases h : d = j
    · subst h; simpa using hj
    · have h' : ¬ j = d := fun e => h e.symm
      simpa [h, h'] using hj
  · intro m ds hm
    rw [ap_box] at hm
    show (s2.store p.n (setAt p.cs p.off p.ds) p.off p.ds.length).box m = _
    rw [St.store_box]
    simp only [Eff.gb] at hm
    split
    · rename_i he; rw [if_pos he] at hm; exact hm
    · rename_i he; rw [if_neg he] at hm; exact hm
  · intro q s hq
    rw [ap_own] at hq
    rw [St.put_own]
    simp only [Eff.go, List.mem_cons] at hq
    split
    · rename_i he; rw [if_pos (.inl he)] at hq; exact hq
    · rename_i he
      show (s2.store p.n (setAt p.cs p.off p.ds) p.off p.ds.length).own q = _
      rw [St.store_own]
      split
      · rename_i h3; rw [if_pos (.inr (mem_cellPls.2 h3))] at hq; exact hq
      · rename_i h3; rw [if_neg (by rintro (h | h); exact he h; exact h3 (mem_cellPls.1 h))] at hq; exact hq

/-! ### The words of the driver in a drawn region -/
section
variable {s0 : St} {N : Nat} {ops : Array Oper} {B : List Nat} {k : Nat} {rest : List Oper} {acc : List Lnk} {st : St} {o : Oper} {Q : St → Prop} {gate : Bool} {d : Nat}
theorem dr_pure {x : X} (hk : ops[k]? = some o) (hg : gateOf ops (rs (foot ops o [] []) st) o = some gate) (hd : o.dst = some d) (hN : Nat.ble (d + 1) N = true) (hp : PureOk Z (rs (foot ops o [] []) st) o.op o.type gate x)
    (hr : Draw Z N s0 ops B (k + 1) rest (acc ++ [(k, { d := some (d, gate, x), drop := [.t d] }, foot ops o [] [])]) (ap { d := some (d, gate, x), drop := [.t d] } st) Q) : Draw Z N s0 ops B k (o :: rest) acc st Q :=
  dr_cons hk (ls_pure hg hd hN hp) hr
/-- An operation that reads a box (whose address stands in 'ax'). -/
theorem dr_box {x : X} {ax : Nat} {g : Bool} {n : Nm} {off : Nat} (hax : st.get ax = some (g, .v (.ptr n off))) (hk : ops[k]? = some o) (hg : gateOf ops (rs (foot ops o [n] []) st) o = some gate) (hd : o.dst = some d) (hN : Nat.ble (d + 1) N = true) (hp : PureOk Z (rs (foot ops o [n] []) st) o.op o.type gate x)
    (hr : Draw Z N s0 ops B (k + 1) rest (acc ++ [(k, { d := some (d, gate, x), drop := [.t d] }, foot ops o [n] [])]) (ap { d := some (d, gate, x), drop := [.t d] } st) Q) : Draw Z N s0 ops B k (o :: rest) acc st Q :=
  let _ := hax; dr_cons hk (ls_pure hg hd hN hp) hr
theorem dr_call {g gf : Bool} {fo : Operand} {args : Array Operand} {ts : Array TypeId} {f : FuncId} {caps : List Y} {xs : List X} {res : X} {ro : Option Nat} (hk : ops[k]? = some o)
    (ho : o.op = .call { callee := .value fo, args := args, argTypes := ts }) (hg : gateOf ops (rs (foot ops o [] []) st) o = some gate) (hd : o.dst = some d) (hN : Nat.ble (d + 1) N = true)
    (hf : lk Z.T (rs (foot ops o [] []) st) 0 fo = some (gf, .fn f caps)) (ha : lkAll Z.T (rs (foot ops o [] []) st) ts.toList args.toList = some (g, xs)) (hgf : gate = true → gf = true) (hga : gate = true → g = true)
    (hs : Ctr Z f (xs ++ caps.map .v) [] res ro []) (hc : res.clean = true)
    (hr : Draw Z N s0 ops B (k + 1) rest (acc ++ [(k, { d := some (d, gate, res), drop := [.t d], gain := cond gate (ro.map fun sz => (.t d, sz)) none }, foot ops o [] [])]) (ap { d := some (d, gate, res), drop := [.t d], gain := cond gate (ro.map fun sz => (.t d, sz)) none } st) Q) :
    Draw Z N s0 ops B k (o :: rest) acc st Q := dr_cons hk (ls_call ho hg hd hN hf ha hgf hga hs hc) hr
theorem dr_build {g : Bool} {t : TypeId} {len : Nat} {parts : Array (Nat × Operand)} {xs : List Operand} {ti : TyI} {e sz by' : Nat} {rws : List (List C)} (hk : ops[k]? = some o)
    (ho : o.op = .buildSlice t len parts) (hg : gateOf ops (rs (foot ops o [] []) st) o = some gate) (hd : o.dst = some d) (hN : Nat.ble (d + 1) N = true) (ht : tyAt Z.T t = some ti) (hel : ti.el = some (e, sz, by')) (hp : parts.toList = enumO 0 xs) (hx : Nat.beq xs.length len = true)
    (hrs : rowsOf Z.T (rs (foot ops o [] []) st) e sz xs = some (g, rws)) (hga : gate = true → g = true) (hbig : Nat.ble (len * sz) 10000 = true)
    (hr : Draw Z N s0 ops B (k + 1) rest (acc ++ [(k, { d := some (d, gate, .v (.c (.sl sz rws))), drop := [.t d], gain := cond gate ((some sz).map fun sz => (.t d, sz)) none }, foot ops o [] [])]) (ap { d := some (d, gate, .v (.c (.sl sz rws))), drop := [.t d], gain := cond gate ((some sz).map fun sz => (.t d, sz)) none } st) Q) :
    Draw Z N s0 ops B k (o :: rest) acc st Q := dr_cons hk (ls_buildSlice ho hg hd hN ht hel hp hx hrs hga hbig) hr
theorem dr_append {j : Nat} {x : Operand} {t : TypeId} {sz e by' : Nat} {es xs : List (List C)} {ti : TyI} (hk : ops[k]? = some o) (ho : o.op = .call { callee := .builtin .append, args := #[.tmp j, x], argTypes := #[t, t] }) (hg : gateOf ops (rs (foot ops o [] [.t j]) st) o = some true) (hd : o.dst = some d)
    (hs : (rs (foot ops o [] [.t j]) st).get j = some (true, .v (.c (.sl sz es)))) (hw : (rs (foot ops o [] [.t j]) st).own (.t j) = some sz) (hx : lk Z.T (rs (foot ops o [] [.t j]) st) t x = some (true, .v (.c (.sl sz xs))))
    (ht : tyAt Z.T t = some ti) (hel : ti.el = some (e, sz, by')) (hN : Nat.ble (d + 1) N = true) (hkd : Nat.beq j d = false) (hbig : (es.length + xs.length) * by' ≤ 140737488355328) (hmax : es.length + xs.length ≤ 9223372036854775807)
    (hr : Draw Z N s0 ops B (k + 1) rest (acc ++ [(k, { d := some (d, true, .v (.c (.sl sz (es ++ xs)))), drop := [.t d, .t j], gain := some (.t d, sz) }, foot ops o [] [.t j])]) (ap { d := some (d, true, .v (.c (.sl sz (es ++ xs)))), drop := [.t d, .t j], gain := some (.t d, sz) } st) Q) :
    Draw Z N s0 ops B k (o :: rest) acc st Q := dr_cons hk (ls_append ho hg hd hs hw hx ht hel hN hkd hbig hmax) hr
theorem dr_take {j sz : Nat} {x : X} (hk : ops[k]? = some o) (hop : o.op = .move (.tmp j) ∨ o.op = .assign (.tmp j)) (hg : gateOf ops (rs (foot ops o [] [.t j]) st) o = some true) (hd : o.dst = some d) (h : (rs (foot ops o [] [.t j]) st).get j = some (true, x)) (hw : (rs (foot ops o [] [.t j]) st).own (.t j) = some sz) (hN : Nat.ble (d + 1) N = true)
    (hr : Draw Z N s0 ops B (k + 1) rest (acc ++ [(k, { d := some (d, true, x), drop := [.t d, .t j], gain := some (.t d, sz) }, foot ops o [] [.t j])]) (ap { d := some (d, true, x), drop := [.t d, .t j], gain := some (.t d, sz) } st) Q) :
    Draw Z N s0 ops B k (o :: rest) acc st Q := dr_cons hk (ls_take hop hg hd h hw hN) hr
theorem dr_store {t : TypeId} {x v : Operand} {n : Nm} {off : Nat} {y : Y} {cs ds : List C} {ti : TyI} (hk : ops[k]? = some o) (ho : o.op = .store t x v) (hx0 : lk Z.T st t x = some (true, .v (.ptr n off))) (hg : gateOf ops (rs (foot ops o [n] []) st) o = some true) (hd : o.dst = none)
    (hx : lk Z.T (rs (foot ops o [n] []) st) t x = some (true, .v (.ptr n off))) (hv : lk Z.T (rs (foot ops o [n] []) st) t v = some (true, .v y)) (hc : y.cells = some ds)
    (hb : (rs (foot ops o [n] []) st).box n = some cs) (ht : tyAt Z.T t = some ti) (hn : ds.length = ti.n) (hl : Nat.ble (off + ds.length) cs.length = true)
    (hr : Draw Z N s0 ops B (k + 1) rest (acc ++ [(k, { b := some (n, setAt cs off ds), drop := cellPls n off ds.length }, foot ops o [n] [])]) (ap { b := some (n, setAt cs off ds), drop := cellPls n off ds.length } st) Q) (hnb : (!n.isBd || !Nat.beq off 0) = true := by rfl) :
    Draw Z N s0 ops B k (o :: rest) acc st Q := let _ := hx0; dr_cons hk (ls_store ho hg hd hx hv hc hb ht hn hl hnb) hr
theorem dr_loadTake {t : TypeId} {x : Operand} {n : Nm} {off : Nat} {ti : TyI} {cs : List C} {c : C} {sz : Nat} (hk : ops[k]? = some o) (ho : o.op = .load t x) (h0 : lk Z.T st o.type x = some (true, .v (.ptr n off))) (hg : gateOf ops (rs (foot ops o [n] [.b n off]) st) o = some true) (hd : o.dst = some d)
    (h : lk Z.T (rs (foot ops o [n] [.b n off]) st) o.type x = some (true, .v (.ptr n off))) (ht : tyAt Z.T t = some ti) (hagg : ti.agg = false) (hb : (rs (foot ops o [n] [.b n off]) st).box n = some cs) (hc : cs[off]? = some c) (hw : (rs (foot ops o [n] [.b n off]) st).own (.b n off) = some sz) (hN : Nat.ble (d + 1) N = true)
    (hr : Draw Z N s0 ops B (k + 1) rest (acc ++ [(k, { d := some (d, true, .v (.c c)), drop := [.t d, .b n off], gain := some (.t d, sz) }, foot ops o [n] [.b n off])]) (ap { d := some (d, true, .v (.c c)), drop := [.t d, .b n off], gain := some (.t d, sz) } st) Q) :
    Draw Z N s0 ops B k (o :: rest) acc st Q := let _ := h0; dr_cons hk (ls_loadTake ho hg hd h ht hagg hb hc hw hN) hr
theorem dr_storeOwn {t : TypeId} {x : Operand} {j : Nat} {n : Nm} {off : Nat} {c : C} {cs : List C} {ti : TyI} {sz : Nat} (hk : ops[k]? = some o) (ho : o.op = .store t x (.tmp j)) (hx0 : lk Z.T st t x = some (true, .v (.ptr n off))) (hg : gateOf ops (rs (foot ops o [n] [.t j]) st) o = some true) (hd : o.dst = none)
    (hx : lk Z.T (rs (foot ops o [n] [.t j]) st) t x = some (true, .v (.ptr n off))) (hv : (rs (foot ops o [n] [.t j]) st).get j = some (true, .v (.c c)))
    (hb : (rs (foot ops o [n] [.t j]) st).box n = some cs) (ht : tyAt Z.T t = some ti) (hn : ti.n = 1) (hl : Nat.ble (off + 1) cs.length = true) (hw : (rs (foot ops o [n] [.t j]) st).own (.t j) = some sz)
    (hr : Draw Z N s0 ops B (k + 1) rest (acc ++ [(k, { b := some (n, setAt cs off [c]), drop := [.t j, .b n off], gain := some (.b n off, sz) }, foot ops o [n] [.t j])]) (ap { b := some (n, setAt cs off [c]), drop := [.t j, .b n off], gain := some (.b n off, sz) } st) Q) (hnb : n.isBd = false := by rfl) :
    Draw Z N s0 ops B k (o :: rest) acc st Q := let _ := hx0; dr_cons hk (ls_storeOwn ho hg hd hx hv hb ht hn hl hw hnb) hr
theorem dr_callB {fo : Operand} {args : Array Operand} {ts : Array TypeId} {f : FuncId} {xs cxs : List X} {res : X} (p : Pass) (hk : ops[k]? = some o)
    (ho : o.op = .call { callee := .value fo, args := args, argTypes := ts }) (hg : gateOf ops (rs (foot ops o [p.n] []) st) o = some true)
    (hf : lk Z.T (rs (foot ops o [p.n] []) st) 0 fo = some (true, .fn f [])) (ha : lkAll Z.T (rs (foot ops o [p.n] []) st) ts.toList args.toList = some (true, xs)) (htr : cxs.map (X.tr [p]) = xs) (htrok : trAll [p] cxs = true)
    (hps : (rs (foot ops o [p.n] []) st).box p.n = some p.cs) (hnd : Nat.ble (p.off + p.ds.length) p.cs.length = true)
    (hs : Ctr Z f cxs [p.old] res none [p.ds]) (hc : res.clean = true) (hd : o.dst = some d) (hN : Nat.ble (d + 1) N = true)
    (hr : Draw Z N s0 ops B (k + 1) rest (acc ++ [(k, { d := some (d, true, res), b := some (p.n, setAt p.cs p.off p.ds), drop := .t d :: cellPls p.n p.off p.ds.length }, foot ops o [p.n] [])]) (ap { d := some (d, true, res), b := some (p.n, setAt p.cs p.off p.ds), drop := .t d :: cellPls p.n p.off p.ds.length } st) Q) (hnb : p.n.isBd = false := by rfl) :
    Draw Z N s0 ops B k (o :: rest) acc st Q := dr_cons hk (ls_callB ho hg hf ha htr htrok hps hnd hs hc hd hN hnb) hr
end
end Go.Abs
/- More words: loads in a drawn region, a slice against nil. -/
set_option linter.unusedVariables false
set_option linter.unusedSimpArgs false
namespace Go.Abs
variable {Z : Pg}
section
variable {s0 : St} {N : Nat} {ops : Array Oper} {B : List Nat} {k : Nat} {rest : List Oper} {acc : List Lnk} {st : St} {o : Oper} {Q : St → Prop} {gate : Bool} {d : Nat}
theorem dr_load {t : TypeId} {x : Operand} {g0 g : Bool} {n : Nm} {off : Nat} {ti : TyI} {cs : List C} {c : C} (hk : ops[k]? = some o) (ho : o.op = .load t x) (h0 : lk Z.T st o.type x = some (g0, .v (.ptr n off))) (hg : gateOf ops (rs (foot ops o [n] []) st) o = some gate) (hd : o.dst = some d) (hN : Nat.ble (d + 1) N = true)
    (h : lk Z.T (rs (foot ops o [n] []) st) o.type x = some (g, .v (.ptr n off))) (hgg : gate = true → g = true) (ht : tyAt Z.T t = some ti) (hagg : ti.agg = false) (hb : (rs (foot ops o [n] []) st).box n = some cs) (hc : cs[off]? = some c)
    (hr : Draw Z N s0 ops B (k + 1) rest (acc ++ [(k, { d := some (d, gate, .v (.c c)), drop := [.t d] }, foot ops o [n] [])]) (ap { d := some (d, gate, .v (.c c)), drop := [.t d] } st) Q) : Draw Z N s0 ops B k (o :: rest) acc st Q :=
  let _ := h0; dr_cons hk (ls_pure hg hd hN (by rw [ho]; exact pure_loadBox h hgg ht hagg hb hc)) hr
theorem dr_loadRow {t : TypeId} {x : Operand} {g0 g : Bool} {n : Nm} {off : Nat} {ti : TyI} {cs ds : List C} (hk : ops[k]? = some o) (ho : o.op = .load t x) (h0 : lk Z.T st o.type x = some (g0, .v (.ptr n off))) (hg : gateOf ops (rs (foot ops o [n] []) st) o = some gate) (hd : o.dst = some d) (hN : Nat.ble (d + 1) N = true)
    (h : lk Z.T (rs (foot ops o [n] []) st) o.type x = some (g, .v (.ptr n off))) (hgg : gate = true → g = true) (ht : tyAt Z.T t = some ti) (hagg : ti.agg = true) (hb : (rs (foot ops o [n] []) st).box n = some cs) (hds : (cs.drop off).take ti.n = ds) (hl : ds.length = ti.n)
    (hr : Draw Z N s0 ops B (k + 1) rest (acc ++ [(k, { d := some (d, gate, .v (.agg ds)), drop := [.t d] }, foot ops o [n] [])]) (ap { d := some (d, gate, .v (.agg ds)), drop := [.t d] } st) Q) : Draw Z N s0 ops B k (o :: rest) acc st Q :=
  let _ := h0; dr_cons hk (ls_pure hg hd hN (by rw [ho]; exact pure_loadBoxRow h hgg ht hagg hb hds hl)) hr
theorem awp_drawn' {Q : Exit → St → Prop} {id : Nat} {l : List Oper} (hcert : certB l.toArray (Region.before l.toArray).toList = true) (h : Draw Z N st l.toArray (Region.before l.toArray).toList 0 l [] st (Q .normal)) : AWP Z N (.region id l.toArray true) Q st :=
  awp_drawn _ hcert h

/-- 'x == nil', a slice: whatever the answer, if the slice is empty; no, if it is not. -/
theorem al_eqNil {rest : List Oper} {K : St → Prop} {x : Operand} {t t' : TypeId} {g : Bool} {sz : Nat} {es : List (List C)} {ti : TyI} {el : Nat × Nat × Nat} (ho : o.op = .binOp .eql t x (.const (.slice none 0 0)) t') (hg : gateOf ops st o = some true) (hd : o.dst = some d) (hN : Nat.ble (d + 1) N = true)
    (h : lk Z.T st o.type x = some (g, .v (.c (.sl sz es)))) (hgg : g = true) (ht : tyAt Z.T t = some ti) (hel : ti.el = some el) (hK : ∀ b : Bool, (b = true → es = []) → AL Z N ops rest K (st.put d (true, .v (.c (.b b))))) : AL Z N ops (o :: rest) K st := by
  intro E G a w hr hE K' hK'
  obtain ⟨e, s, by'⟩ := el
  have hu := ((Z.tyOk ht).sl e s by' hel).1
  have h1 := lk_rep hr h hgg
  have hdN : d < E.nt := by rw [hE.nt]; exact Nat.le_of_ble_eq_true hN
  have key : ∀ (b : Bool), (b = true → es = []) → (execOp a.eval o).run Z.P w = .ok (.value (.bool b)) w → wpList Z.P ops (Qn K') (o :: rest) a w := by
    intro b hb hrun
    unfold wpList
    rw [wanted_gate hr hg]
    simp only [if_true]
    refine .inl ?_
    unfold Oper.wp
    rw [hrun, Oper.upon_value, hd]
    exact hK b hb E G _ w (hr.put hdN (fun _ => XRep.mkBool b) (fun hf => by simp at hf)) hE K' hK'
  have heq : ∀ (v : Option Addr) (n c : Nat), (Op.equal t (.slice v n c) (.slice none 0 0)).run Z.P w = .ok v.isNone w := by
    intro v n c
    show (Op.equalIn (9999 + 1) t (.slice v n c) (.slice none 0 0)).run Z.P w = _
    rw [Op.equalIn]
    cases v <;> simp [underlying, hu]
  have hexec : ∀ (v : Option Addr) (n c : Nat), a.eval x = .slice v n c → (execOp a.eval o).run Z.P w = .ok (.value (.bool v.isNone)) w := by
    intro v n c hv
    simp [execOp, ho, hv, eval_const, eqGuard, binOp, heq]
  rcases CRep.sl_cases h1 with ⟨a0, hv, hes⟩ | ⟨blk, off, len, cap, hv, _⟩
  · exact key a0.isNone (fun _ => hes) (hexec _ _ _ hv)
  · exact key false (fun h => by simp at h) (hexec _ _ _ hv)
end
end Go.Abs
/- Struct values, the greater and the lesser of two numbers, nil slices that are owned, and calls that hand boxes on. -/
set_option linter.unusedVariables false
set_option linter.unusedSimpArgs false
namespace Go.Abs
variable {Z : Pg}

theorem TyOk.fields {P : Program} {t : TypeId} {ti : TyI} {fs : Array Field} (h : tyB P t ti = true) (hu : P.underlying t = some (.struct fs)) :
    ∃ i zv, P.info? t = some i ∧ i.zero = some zv ∧ All2 (fun c v => constV c v = true) ti.z zv.cells.toList ∧ ∀ f ∈ fs.toList, ∃ j, P.info? f.type = some j := by
  unfold tyB at h
  split at h
  · rename_i i d hi hd
    rw [hu] at hd
    simp only [Option.some.injEq] at hd
    subst hd
    simp only [Bool.and_eq_true, beq_iff_eq] at h
    obtain ⟨⟨⟨_, _⟩, h3⟩, ⟨h4, h5⟩, _⟩ := h
    split at h3
    · rename_i zv hz
      simp only [Bool.and_eq_true, beq_iff_eq] at h3
      refine ⟨i, zv, hi, hz, All2.ofB h3.2, ?_⟩
      intro f hf
      obtain ⟨j, hj⟩ := List.getElem?_of_mem hf
      have hal := All2.ofB h5
      have hlt : j < ti.offs.length := by rw [hal.len]; exact (List.getElem?_eq_some_iff.1 hj).1
      obtain ⟨f', hf', hr⟩ := hal.get j _ (List.getElem?_eq_getElem hlt)
      rw [hj] at hf'
      simp only [Option.some.injEq] at hf'
      subst hf'
      simp only [Bool.and_eq_true] at hr
      obtain ⟨_, hr2⟩ := hr
      split at hr2
      · rename_i k hk; exact ⟨k, hk⟩
      · simp at hr2
    · simp at h3
  · simp at h

def buildC (T : List (Option TyI)) (st : St) (fs : List Field) : List (Nat × Operand) → List C → Option (Bool × List C)
  | [], acc => some (true, acc)
  | (i, x) :: r, acc => match fs[i]? with
    | some f => (match tyAt T f.type with
      | some tj => (match lk T st f.type x with
        | some (g, .v y) => (match y.cells with
          | some cs => cond (Nat.beq cs.length tj.n && Nat.ble (f.offset + cs.length) acc.length)
              (match buildC T st fs r (setAt acc f.offset cs) with | some (g', out) => some (g && g', out) | none => none) none
          | none => none)
        | _ => none)
      | none => none)
    | none => none

section
variable {st : St} {ty : TypeId} {gate : Bool} {N : Nat} {ops : Array Oper} {o : Oper} {d : Nat} {K : St → Prop}

theorem buildC_fill {E : Env} {G : Gh} {a : Act} {w : World} (hr : Rel E G st a w) {fs : List Field} {place : Nat → Option (Nat × Nat)}
    (hpl : ∀ (i : Nat) (f : Field) (tj : TyI), fs[i]? = some f → tyAt Z.T f.type = some tj → place i = some (f.offset, tj.n)) :
    ∀ {parts : List (Nat × Operand)} {acc out : List C} {g : Bool} {cells : Array Value}, buildC Z.T st fs parts acc = some (g, out) → g = true → All2 (CRep w G.S) acc cells.toList →
      ∃ cells', Instr.fill place cells (parts.map fun (i, x) => (i, a.eval x)) = some cells' ∧ All2 (CRep w G.S) out cells'.toList
  | [], acc, out, g, cells, h, _, hc => by
    simp only [buildC, Option.some.injEq, Prod.mk.injEq] at h
    obtain ⟨_, rfl⟩ := h
    exact ⟨cells, rfl, hc⟩
  | (i, x) :: r, acc, out, g, cells, h, hg, hc => by
    simp only [buildC] at h
    split at h
    · rename_i f hf
      split at h
      · rename_i tj htj
        split at h
        · rename_i g1 y hy
          split at h
          · rename_i cs hcs
            cases hb : (Nat.beq cs.length tj.n && Nat.ble (f.offset + cs.length) acc.length) with
            | false => rw [hb] at h; simp at h
            | true =>
              rw [hb, cond_true] at h
              rw [Bool.and_eq_true] at hb
              split at h
              · rename_i g2 out2 h2
                simp only [Option.some.injEq, Prod.mk.injEq] at h
                obtain ⟨rfl, rfl⟩ := h
                rw [Bool.and_eq_true] at hg
                have hrep := (show YRep w G y (a.eval x) from lk_rep hr hy hg.1).cells hcs
                have hn := Nat.eq_of_beq_eq_true hb.1
                have hl := Nat.le_of_ble_eq_true hb.2
                have hsz : (a.eval x).cells.size = tj.n := by rw [← Array.length_toList, ← hrep.len, hn]
                have hcl : acc.length = cells.size := by rw [hc.len, Array.length_toList]
                have hfit : f.offset + (a.eval x).cells.size ≤ cells.size := by rw [hsz, ← hn]; omega
                obtain ⟨q1, q2⟩ := foldl_cells f.offset (a.eval x) cells hfit
                obtain ⟨cells', h3, h4⟩ := buildC_fill hr hpl (parts := r) (cells := (a.eval x).cells.zipIdx.foldl (fun cs (c, j) => cs.setIfInBounds (f.offset + j) c) cells) h2 hg.2 (by
                  refine All2.mk ((setAt_length _ _ _).trans (hcl.trans (q1.symm.trans Array.length_toList.symm))) ?_
                  intro j c v hj hv
                  rw [Array.getElem?_toList, q2 j] at hv
                  rw [setAt_get _ _ _ _ hl] at hj
                  rw [hsz, ← hn] at hv
                  split at hj
                  · rename_i hin
                    rw [if_pos hin] at hv
                    obtain ⟨v', hv', hr'⟩ := hrep.get _ _ hj
                    rw [Array.getElem?_toList, hv] at hv'
                    simp only [Option.some.injEq] at hv'
                    subst hv'
                    exact hr'
                  · rename_i hin
                    rw [if_neg hin] at hv
                    obtain ⟨v', hv', hr'⟩ := hc.get _ _ hj
                    rw [Array.getElem?_toList, hv] at hv'
                    simp only [Option.some.injEq] at hv'
                    subst hv'
                    exact hr')
                refine ⟨cells', ?_, h4⟩
                simp only [List.map_cons, Instr.fill, hpl i f tj hf htj]
                have hno : ¬ ((a.eval x).cells.size ≠ tj.n ∨ f.offset + (a.eval x).cells.size > cells.size) := by
                  rintro (h | h)
                  · exact h hsz
                  · omega
                rw [if_neg (by simpa using hno)]
                exact h3
              · simp at h
          · simp at h
        · simp at h
      · simp at h
    · simp at h

theorem pure_build {t : TypeId} {parts : Array (Nat × Operand)} {fs : Array Field} {ti : TyI} {g : Bool} {out : List C} (ht : tyAt Z.T t = some ti) (hu : Z.P.underlying t = some (.struct fs))
    (hb : buildC Z.T st fs.toList parts.toList ti.z = some (g, out)) (hg : gate = true → g = true) : PureOk Z st (.build t parts) ty gate (.v (.agg out)) := by
  intro o E G a w ho _ hr hgt
  obtain ⟨i, zv, hi, hz, hzv, hall⟩ := TyOk.fields (Z.ty ht) hu
  obtain ⟨places, hp⟩ := MapFrom.mapM_some (f := fun f => (Z.P.info? f.type).map fun i => (f.offset, i.size)) (l := fs.toList) (fun f hf => by
    obtain ⟨j, hj⟩ := hall f hf
    exact ⟨_, by rw [hj]; rfl⟩)
  obtain ⟨cells, h1, h2⟩ := buildC_fill hr (place := (places.toArray[·]?)) (fun k f tj hk htj => by
    have := mapM_some_get hp k f hk
    obtain ⟨j, _, _, hj, _, hn, _⟩ := (Z.tyOk htj).info
    rw [hj] at this
    simp only [List.getElem?_toArray]
    rw [← this, ← hn]; rfl) hb (hg hgt) (hzv.mono fun c v hcv => CRep.ofConst (w := w) (S := G.S) hcv)
  refine ⟨.agg cells, ⟨cells.toList, by simp, h2⟩, ?_⟩
  have hbuilt : Z.P.built t (parts.map fun (i, x) => (i, a.eval x)).toList = some cells := by
    unfold Program.built
    simp only [hi, hu, hz, hp]
    rw [Array.toList_map]
    exact h1
  simp only [execOp, ho]
  simp [run_build w t _ cells hbuilt]

theorem pure_max {x y : Operand} {ts : Array TypeId} {gx gy : Bool} {k k' : IntKind} {m n : Int} (hx : lk Z.T st ty x = some (gx, .v (.c (.i k m)))) (hy : lk Z.T st ty y = some (gy, .v (.c (.i k' n))))
    (hgx : gate = true → gx = true) (hgy : gate = true → gy = true) : PureOk Z st (.call { callee := .builtin .max, args := #[x, y], argTypes := ts }) ty gate (.v (.c (.i k (max m n)))) := by
  intro o E G a w ho _ hr hgt
  have h1 := XRep.int (lk_rep hr hx (hgx hgt))
  have h2 := XRep.int (lk_rep hr hy (hgy hgt))
  refine ⟨.int k (max m n), CRep.i _ _, ?_⟩
  have : (if n > m then n else m) = max m n := by split <;> omega
  simp [execOp, ho, h1, h2, Go.resolve, invoke, builtin, run_max_int2, ← this]
theorem pure_min {x y : Operand} {ts : Array TypeId} {gx gy : Bool} {k k' : IntKind} {m n : Int} (hx : lk Z.T st ty x = some (gx, .v (.c (.i k m)))) (hy : lk Z.T st ty y = some (gy, .v (.c (.i k' n))))
    (hgx : gate = true → gx = true) (hgy : gate = true → gy = true) : PureOk Z st (.call { callee := .builtin .min, args := #[x, y], argTypes := ts }) ty gate (.v (.c (.i k (min m n)))) := by
  intro o E G a w ho _ hr hgt
  have h1 := XRep.int (lk_rep hr hx (hgx hgt))
  have h2 := XRep.int (lk_rep hr hy (hgy hgt))
  refine ⟨.int k (min m n), CRep.i _ _, ?_⟩
  have : (if n < m then n else m) = min m n := by split <;> omega
  simp [execOp, ho, h1, h2, Go.resolve, invoke, builtin, run_min_int2, ← this]

/-- 'var out []T': a nil slice, which its variable owns. -/
theorem does_nil {op : Op} {sz : Nat} (hop : op = .move (.const (.slice none 0 0)) ∨ op = .assign (.const (.slice none 0 0))) (_hx : lk Z.T st ty (.const (.slice none 0 0)) = some (true, .v (.c (.sl sz [])))) (hN : Nat.ble (d + 1) N = true) :
    Does Z N st (some d) op ty ((st.put d (true, .v (.c (.sl sz [])))).addOwn (.t d) sz) := by
  intro o E G a w hd ho hty hr hE K Q hK
  have hdN : d < E.nt := by rw [hE.nt]; exact Nat.le_of_ble_eq_true hN
  unfold Oper.wp
  have : (execOp a.eval o).run Z.P w = .ok (.value (.slice none 0 0)) w := by
    rcases hop with rfl | rfl <;> simp [execOp, ho, eval_const]
  rw [this, Oper.upon_value, hd]
  have hp : Rel E G (st.put d (true, .v (.c (.sl sz [])))) (a.put (some d) (.slice none 0 0)) w := hr.put hdN (fun _ => CRep.nil sz) (fun hf => by simp at hf)
  refine hK G _ _ (hp.addOwn (v := .slice none 0 0) ?_ (.inl rfl))
  show (a.put (some d) (.slice none 0 0)).tmps[d]? = _
  rw [act_put_get (by rw [hr.nt]; exact hdN), if_pos rfl]

/-- A nil slice is stored into a box, which owns it. -/
theorem does_storeNil {t : TypeId} {x : Operand} {n : Nm} {off : Nat} {cs : List C} {ti : TyI} {sz : Nat} (hx : lk Z.T st t x = some (true, .v (.ptr n off))) (hv : lk Z.T st t (.const (.slice none 0 0)) = some (true, .v (.c (.sl sz []))))
    (hb : st.box n = some cs) (ht : tyAt Z.T t = some ti) (hn : ti.n = 1) (hl : Nat.ble (off + 1) cs.length = true) (hnb : (!n.isBd || !Nat.beq off 0) = true := by rfl) :
    Does Z N st none (.store t x (.const (.slice none 0 0))) ty ((st.store n (setAt cs off [.sl sz []]) off 1).addOwn (.b n off) sz) := by
  intro o E G a w hd ho _ hr hE K Q hK
  have h1 : a.eval x = _ := lk_rep hr hx rfl
  have h2 : All2 (CRep w G.S) [.sl sz []] (a.eval (.const (.slice none 0 0))).cells.toList := (show YRep w G (.c (.sl sz [])) _ from lk_rep hr hv rfl).cells rfl
  have hl' := Nat.le_of_ble_eq_true hl
  have hrun := run_store_box hr hb (ds := [.sl sz []]) hl' ht (by simp [hn]) h2
  unfold Oper.wp
  have : (execOp a.eval o).run Z.P w = .ok .skip (w.setCells (G.A n).1 ((G.A n).2 + off) (a.eval (.const (.slice none 0 0))).cells.toList) := by
    simp [execOp, ho, h1, hrun]
  rw [this, Oper.upon_skip, hd]
  have hst := hr.storeAll [.sl sz []] _ hb hl' h2 (nbOf hnb)
  refine hK G undef _ (Rel.putNone (hst.addOwn (v := .slice none 0 0) ?_ (.inl rfl)) undef)
  obtain ⟨q1, _, u, q3, q4⟩ := hst.bx n (setAt cs off [.sl sz []]) (by rw [St.store_box, if_pos rfl]) off (.sl sz []) (get_setAt1 (by omega))
  refine ⟨?_, q1⟩
  have hcell := hr.bx n cs hb off _ (List.getElem?_eq_getElem (by omega))
  obtain ⟨_, _, u0, hu0, _⟩ := hcell
  have h1c : (a.eval (.const (.slice none 0 0))).cells = #[.slice none 0 0] := rfl
  rw [h1c]
  simp only [World.setCells]
  exact World.cell?_setCell_same _ _ _ hu0

theorem al_callB {rest : List Oper} {fo : Operand} {args : Array Operand} {ts : Array TypeId} {f : FuncId} {xs cxs : List X} {res : X} (ps : List Pass)
    (ho : o.op = .call { callee := .value fo, args := args, argTypes := ts }) (hg : gateOf ops st o = some true)
    (hf : lk Z.T st 0 fo = some (true, .fn f [])) (ha : lkAll Z.T st ts.toList args.toList = some (true, xs)) (htr : cxs.map (X.tr ps) = xs) (htrok : trAll ps cxs = true)
    (hps : ∀ p ∈ ps, st.box p.n = some p.cs) (hnd : passB st ps = true)
    (hs : Ctr Z f cxs (ps.map Pass.old) res none (ps.map Pass.ds)) (hc : res.clean = true) (hd : o.dst = some d) (hN : Nat.ble (d + 1) N = true)
    (h : AL Z N ops rest K ((st.stores ps).put d (true, res))) : AL Z N ops (o :: rest) K st :=
  al_op1 (op1_callB ho hg hf ha htr htrok hps hnd hs hc (dst := some d) hd ⟨hN, rfl⟩) h
end
end Go.Abs
/- Gates, and bytes of strings behind gates. -/
set_option linter.unusedVariables false
set_option linter.unusedSimpArgs false
namespace Go.Abs
variable {Z : Pg}
theorem gL {a b : Bool} (h : (a && b) = true) : a = true := by cases a <;> simp_all
theorem gA {a b : Bool} (h : a = true) (k : b = true) : (a && b) = true := by subst h; subst k; rfl
theorem gP {g x b : Bool} (h : g = true) (hi : x = b) : (g && (x == b)) = true := by subst h; subst hi; simp
/-- Where branches meet: a state that all of them reach. -/
theorem awp_cut {N : Nat} {x y : Code} {Q : Exit → St → Prop} {st : St} (S : St) (P : Prop) (h1 : AWP Z N x (thenS (fun s => P ∧ Sub S s) Q) st) (h2 : P → AWP Z N y Q S) : AWP Z N (x.seq y) Q st :=
  awp_seq (awp_mono h1 fun e s h => by
    cases e with
    | normal => exact awp_sub h.2 (h2 h.1)
    | _ => exact h)
section
variable {st : St} {ty : TypeId} {gate : Bool}
theorem pure_indexSg {x i : Operand} {t : TypeId} {g gi : Bool} {l : List UInt8} {k : IntKind} {n : Int} {j : Nat} (h : lk Z.T st ty x = some (g, .v (.c (.s l)))) (hi : lk Z.T st ty i = some (gi, .v (.c (.i k n))))
    (hg : gate = true → g = true) (hgi : gate = true → gi = true) (hu : Z.P.underlying t = some .string) (hn : n = (j : Int)) (hj : gate = true → j < l.length) : PureOk Z st (.index t x i) ty gate (.v (.c (.i .u8 ((l.getD j 0).toNat : Int)))) := by
  intro o E G a w ho hty hr hgt
  have hlt := hj hgt
  have hget : l[j]? = some (l.getD j 0) := by rw [List.getD_eq_getElem?_getD, List.getElem?_eq_getElem hlt]; rfl
  exact pure_indexS h hi hg hgi hu hn hget o E G a w ho hty hr hgt
end
end Go.Abs
/- From the reading of the arguments to a contract: every value that reads as data of plain types stands for cells of the abstract machine. -/
set_option linter.unusedVariables false
set_option linter.unusedSimpArgs false
namespace Go.Abs

def hasFs (R : TypeId → List C → Prop) : List Field → List C → Prop
  | [], cs => cs = []
  | f :: r, cs => ∃ a b, cs = a ++ b ∧ R f.type a ∧ hasFs R r b
def hasN (R : List C → Prop) : Nat → List C → Prop
  | 0, cs => cs = []
  | n + 1, cs => ∃ a b, cs = a ++ b ∧ R a ∧ hasN R n b

/-- The cells are of the type. -/
def hasTy (P : Program) : Nat → TypeId → List C → Prop
  | 0, _, _ => False
  | n + 1, t, cs => match P.underlying t with
    | some .bool => ∃ x, cs = [.b x]
    | some (.int k) => ∃ m, cs = [.i k m] ∧ (Lit.int k m).wf = true
    | some .string => ∃ l, cs = [.s l]
    | some (.slice e) => ∃ es, cs = [.sl (P.cellsOf e) es] ∧ ∀ row, row ∈ es → hasTy P n e row
    | some (.struct fs) => hasFs (hasTy P n) fs.toList cs
    | some (.array m e) => hasN (hasTy P n e) m cs
    | _ => False

def flatB (P : Program) (L : List TypeId) : List Field → Nat → Option Nat
  | [], off => some off
  | f :: r, off => if f.offset = off ∧ f.type ∈ L then flatB P L r (off + P.cellsOf f.type) else none

/-- The types of the list are plain, and closed. -/
def closedB (P : Program) (L : List TypeId) : Bool := L.all fun t => match P.underlying t with
  | some .bool | some (.int _) | some .string => P.cellsOf t == 1
  | some (.slice e) => P.cellsOf t == 1 && decide (e ∈ L) && P.cellsOf e != 0
  | some (.struct fs) => flatB P L fs.toList 0 == some (P.cellsOf t)
  | some (.array n e) => decide (e ∈ L) && P.cellsOf t == n * P.cellsOf e
  | _ => false

theorem flatB_le {P : Program} {L : List TypeId} : ∀ {fs : List Field} {off tot : Nat}, flatB P L fs off = some tot → off ≤ tot
  | [], off, tot, h => by simp [flatB] at h; omega
  | f :: r, off, tot, h => by
    simp only [flatB] at h
    split at h
    · have := flatB_le h; omega
    · simp at h

theorem list_of {α : Type} {R : Nat → α → Prop} : ∀ (n : Nat), (∀ j, j < n → ∃ v, R j v) → ∃ vs : List α, vs.length = n ∧ ∀ (j : Nat) (v : α), vs[j]? = some v → R j v
  | 0, _ => ⟨[], rfl, fun j v h => by simp at h⟩
  | n + 1, h => by
    obtain ⟨vs, h1, h2⟩ := list_of n fun j hj => h j (by omega)
    obtain ⟨v, hv⟩ := h n (by omega)
    refine ⟨vs ++ [v], by simp [h1], fun j u hu => ?_⟩
    rw [List.getElem?_append] at hu
    split at hu
    · exact h2 j u hu
    · have : j = n := by
        have := (List.getElem?_eq_some_iff.1 hu).1
        simp at this; omega
      subst this
      simp [h1] at hu
      subst hu
      exact hv

def topG (w : World) : Gh := { W := fun b _ => if b < w.heap.size then .imm else .none, A := fun _ => (0, 0) }
theorem topG_S {w : World} {b o : Nat} (h : b < w.heap.size) : (topG w).S b o := by
  show (if b < w.heap.size then Who.imm else Who.none) = _
  rw [if_pos h]

section
variable {H : Type} {enc : TypeId × Value → H} {P : Program} {L : List TypeId} {w : World}

theorem mapM_at {α β : Type} {f : α → Option β} {l : List α} {r : List β} (h : l.mapM f = some r) {i : Nat} {x : α} (hx : l[i]? = some x) : ∃ y, f x = some y ∧ r[i]? = some y := by
  have h1 := Go.mapM_some_get h i x hx
  have h2 := Go.mapM_some_length h
  have hi : i < r.length := by rw [h2]; exact (List.getElem?_eq_some_iff.1 hx).1
  exact ⟨r[i], by rw [h1, List.getElem?_eq_getElem hi], List.getElem?_eq_getElem hi⟩

theorem cells_at {a : Addr} {n : Nat} {vs : List Value} (h : w.cells? 0 a n = some vs) : vs.length = n ∧ ∀ (j : Nat) (v : Value), vs[j]? = some v → w.cell? (a.add j) = some v := by
  simp only [World.cells?, Nat.zero_le, if_true] at h
  have hl := Go.mapM_some_length h
  simp only [List.length_range] at hl
  refine ⟨hl, fun j v hv => ?_⟩
  have hj : j < n := by rw [← hl]; exact (List.getElem?_eq_some_iff.1 hv).1
  have := Go.mapM_some_get h j j (by simp [hj])
  rw [this]; exact hv

theorem add_add (b o x y : Nat) : ((⟨b, o, none⟩ : Addr).add x).add y = ⟨b, o + x + y, none⟩ := by
  rw [addr_add, addr_add]

theorem CRep.mk_any {S : Nat → Nat → Prop} {sz : Nat} {es : List (List C)} {a : Addr} {len cap : Nat} (hl : es.length = len) (hc : len ≤ cap) (hm : len ≤ 9223372036854775807) (hs : cap ≠ 0 → a.spot = none)
    (h : ∀ (i : Nat) (row : List C), es[i]? = some row → row.length = sz ∧ RowAt w S a.block (a.off + i * sz) row) : CRep w S (.sl sz es) (.slice (some a) len cap) := by
  by_cases h0 : cap = 0
  · subst h0
    have : len = 0 := by omega
    subst this
    have : es = [] := List.eq_nil_of_length_eq_zero hl
    subst this
    exact .emp sz _
  · obtain ⟨b, o, sp⟩ := a
    have := hs h0
    simp only at this
    subst this
    exact CRep.mk_sl hl hc hm h

/-- A reading's cells stand for cells of the abstract machine. -/
theorem trod_has (hL : closedB P L = true) : ∀ (fuel : Nat) (t : TypeId) (vs : List Value) (d : DataW H) (p : List MemPlace), t ∈ L →
    DataW.trod enc P w 0 (fun _ => true) true fuel t vs = some (d, p) → ∃ cs, hasTy P fuel t cs ∧ All2 (CRep w (topG w).S) cs vs ∧ cs.length = P.cellsOf t
  | 0, t, vs, d, p, _, h => by simp [DataW.trod] at h
  | fuel + 1, t, vs, d, p, ht, h => by
    have IH := trod_has hL fuel
    have hc := List.all_eq_true.1 hL t ht
    unfold DataW.trod at h
    split at h
    · rename_i b hu
      simp only [hu, beq_iff_eq] at hc
      exact ⟨[.b b], by simp only [hasTy, hu]; exact ⟨_, rfl⟩, ⟨.b b, trivial⟩, hc.symm⟩
    · rename_i k k' n hu
      simp only [hu, beq_iff_eq] at hc
      split at h
      · rename_i hk
        obtain ⟨rfl, hwf⟩ := hk
        exact ⟨[.i k' n], by simp only [hasTy, hu]; exact ⟨n, rfl, hwf⟩, ⟨.i _ n, trivial⟩, hc.symm⟩
      · simp at h
    · rename_i hu; simp only [hu] at hc; simp at hc
    · rename_i s hu
      simp only [hu, beq_iff_eq] at hc
      split at h
      · rename_i hs
        have hs' : s.data.toList.length ≤ 9223372036854775807 := by
          have h1 : s.data.toList.length = s.size := rfl
          have h2 : maxLen = 9223372036854775807 := by decide
          omega
        refine ⟨[.s s.data.toList], by simp only [hasTy, hu]; exact ⟨_, rfl⟩, ⟨?_, trivial⟩, hc.symm⟩
        have := CRep.s (w := w) (S := (topG w).S) s.data.toList hs'
        rwa [str_eta] at this
      · simp at h
    · rename_i hu; simp only [hu] at hc; simp at hc
    · rename_i hu; simp only [hu] at hc; simp at hc
    · rename_i e hu
      simp only [hu, Bool.and_eq_true, beq_iff_eq] at hc
      exact ⟨[.sl (P.cellsOf e) []], by simp [hasTy, hu], ⟨.nil _, trivial⟩, hc.1.1.symm⟩
    · rename_i e a len cap hu
      simp only [hu, Bool.and_eq_true, beq_iff_eq, decide_eq_true_eq, bne_iff_ne] at hc
      obtain ⟨⟨hc1, heL⟩, hsz0⟩ := hc
      simp only at h
      split at h
      · rename_i hb
        obtain ⟨_, hlc, hcm⟩ := hb
        have hmax : len ≤ 9223372036854775807 := by
          have h2 : maxLen = 9223372036854775807 := by decide
          omega
        simp only [Option.bind_eq_some_iff, if_true, Option.map_eq_some_iff] at h
        obtain ⟨elems, h1, rest, h2, _⟩ := h
        have hel : ∀ i, i < cap → ∃ ci y, w.cells? 0 (a.add (i * P.cellsOf e)) (P.cellsOf e) = some ci ∧ DataW.trod enc P w 0 (fun _ => true) true fuel e ci = some y := by
          intro i hi
          by_cases hil : i < len
          · obtain ⟨y, hy, _⟩ := mapM_at h1 (i := i) (x := i) (by simp [hil])
            simp only [Option.bind_eq_some_iff] at hy
            obtain ⟨ci, q1, q2⟩ := hy
            exact ⟨ci, y, q1, q2⟩
          · obtain ⟨y, hy, _⟩ := mapM_at h2 (i := i - len) (x := i - len) (by simp [show i - len < cap - len by omega])
            rw [show len + (i - len) = i by omega] at hy
            simp only [Option.bind_eq_some_iff] at hy
            obtain ⟨ci, q1, q2⟩ := hy
            exact ⟨ci, y, q1, q2⟩
        have hspot : cap ≠ 0 → a.spot = none := by
          intro h0
          obtain ⟨ci, y, q1, _⟩ := hel 0 (by omega)
          obtain ⟨q3, q4⟩ := cells_at q1
          have hlt : 0 < ci.length := by omega
          have := q4 0 _ (List.getElem?_eq_getElem hlt)
          simpa [Addr.add] using World.cell?_spot this
        obtain ⟨es, hesl, hes⟩ := list_of (R := fun i row => hasTy P fuel e row ∧ row.length = P.cellsOf e ∧ RowAt w (topG w).S a.block (a.off + i * P.cellsOf e) row) len (by
          intro i hi
          obtain ⟨ci, ⟨y1, y2⟩, q1, q2⟩ := hel i (by omega)
          obtain ⟨row, r1, r2, r3⟩ := IH e ci y1 y2 heL q2
          refine ⟨row, r1, r3, fun j c hj => ?_⟩
          obtain ⟨v, hv, hrep⟩ := r2.get j c hj
          have hcell := (cells_at q1).2 j v hv
          have hsp := hspot (by omega)
          obtain ⟨b, o, sp⟩ := a
          simp only at hsp
          subst hsp
          rw [add_add] at hcell
          exact ⟨topG_S (World.block_lt_of_cell? w ⟨b, o + i * P.cellsOf e + j, none⟩ hcell), v, hcell, hrep⟩)
        refine ⟨[.sl (P.cellsOf e) es], ?_, ⟨?_, trivial⟩, hc1.symm⟩
        · simp only [hasTy, hu]
          refine ⟨es, rfl, fun row hr => ?_⟩
          obtain ⟨i, hi⟩ := List.getElem?_of_mem hr
          exact (hes i row hi).1
        · exact CRep.mk_any hesl hlc hmax hspot fun i row hi => (hes i row hi).2
      · simp at h
    · rename_i vs _ _ fs hu
      simp only [hu, beq_iff_eq] at hc
      split at h
      · rename_i hlen
        simp only [Option.map_eq_some_iff] at h
        obtain ⟨xs, hxs, _⟩ := h
        have key : ∀ (fs : List Field) (off : Nat) (xs : List (DataW H × List MemPlace)), flatB P L fs off = some (P.cellsOf t) →
            (fs.mapM fun f => DataW.trod enc P w 0 (fun _ => true) true fuel f.type ((vs.drop f.offset).take (P.cellsOf f.type))) = some xs →
            ∃ cs, hasFs (hasTy P fuel) fs cs ∧ All2 (CRep w (topG w).S) cs (vs.drop off) ∧ cs.length = P.cellsOf t - off := by
          intro fs
          induction fs with
          | nil =>
            intro off xs hf _
            simp only [flatB, Option.some.injEq] at hf
            refine ⟨[], rfl, ?_, by simp; omega⟩
            rw [List.drop_eq_nil_of_le (by omega)]
            trivial
          | cons f r ih =>
            intro off xs hf hm
            simp only [flatB] at hf
            split at hf
            · rename_i hfo
              obtain ⟨rfl, hfL⟩ := hfo
              simp only [List.mapM_cons, Option.bind_eq_bind, Option.bind_eq_some_iff] at hm
              obtain ⟨⟨y1, y2⟩, hy, ys, hys, _⟩ := hm
              obtain ⟨a, a1, a2, a3⟩ := IH _ _ _ _ hfL hy
              obtain ⟨b, b1, b2, b3⟩ := ih _ _ hf hys
              have hle := flatB_le hf
              refine ⟨a ++ b, ⟨a, b, rfl, a1, b1⟩, ?_, by simp; omega⟩
              have := a2.append b2
              rwa [← List.drop_drop, List.take_append_drop] at this
            · simp at hf
        obtain ⟨cs, c1, c2, c3⟩ := key fs.toList 0 xs hc hxs
        exact ⟨cs, by simp only [hasTy, hu]; exact c1, by simpa using c2, by simpa using c3⟩
      · simp at h
    · rename_i vs _ _ n e hu
      simp only [hu, Bool.and_eq_true, beq_iff_eq, decide_eq_true_eq] at hc
      obtain ⟨heL, hct⟩ := hc
      split at h
      · rename_i hlen
        simp only [Option.map_eq_some_iff] at h
        obtain ⟨xs, hxs, _⟩ := h
        have key : ∀ (m k : Nat), k + m = n → ∃ cs, hasN (hasTy P fuel e) m cs ∧ All2 (CRep w (topG w).S) cs (vs.drop (k * P.cellsOf e)) ∧ cs.length = m * P.cellsOf e := by
          intro m
          induction m with
          | zero =>
            intro k hk
            refine ⟨[], rfl, ?_, by simp⟩
            have : k = n := by omega
            subst this
            rw [List.drop_eq_nil_of_le (by omega)]
            trivial
          | succ m ih =>
            intro k hk
            obtain ⟨⟨y1, y2⟩, hy, _⟩ := mapM_at hxs (i := k) (x := k) (by simp [show k < n by omega])
            obtain ⟨a, a1, a2, a3⟩ := IH _ _ _ _ heL hy
            obtain ⟨b, b1, b2, b3⟩ := ih (k + 1) (by omega)
            refine ⟨a ++ b, ⟨a, b, rfl, a1, b1⟩, ?_, by simp [a3, b3, Nat.succ_mul]; omega⟩
            have := a2.append b2
            rwa [Nat.succ_mul, ← List.drop_drop, List.take_append_drop] at this
        obtain ⟨cs, c1, c2, c3⟩ := key n 0 (by omega)
        exact ⟨cs, by simp only [hasTy, hu]; exact c1, by simpa using c2, by rw [c3, hct]⟩
      · simp at h
    all_goals first | (rename_i hu; simp only [hu] at hc; simp at hc) | (simp at h) | trace_state
end
end Go.Abs
/- The top of a law: its contract answers the given statement's call. -/
set_option linter.unusedVariables false
set_option linter.unusedSimpArgs false
namespace Go.Abs
open Go.RowKit (Below)

section
variable {H : Type} {enc : TypeId × Value → H} {P : Program} {L : List TypeId} {w : World}

def plainD : TypeDesc → Bool
  | .bool | .int _ | .string | .slice _ => true
  | _ => false
def rowD : TypeDesc → Bool
  | .struct _ | .array _ _ => true
  | _ => false

theorem okWide_plain {t : TypeId} {v : Value} {r : Reach} {base : Nat} {d : TypeDesc} (hd : P.underlying t = some d) (hp : plainD d = true) (h : Value.okWide P w r base t v) : v.oneCell' = true := by
  cases d <;> simp [plainD] at hp <;> simp only [Value.okWide, Cell.okWide, Cell.ok, hd] at h <;> cases v <;> first | rfl | (simp at h)
theorem okWide_row {t : TypeId} {v : Value} {r : Reach} {base : Nat} {d : TypeDesc} (hd : P.underlying t = some d) (hp : rowD d = true) (h : Value.okWide P w r base t v) : ∃ cs, v = .agg cs := by
  cases d <;> simp [rowD] at hp <;> simp only [Value.okWide, hd] at h <;> obtain ⟨cs, rfl, _⟩ := h <;> exact ⟨cs, rfl⟩

/-- An argument of one cell. -/
theorem arg_one (hL : closedB P L = true) {t : TypeId} {v : Value} {base : Nat} {d : TypeDesc} {x : DataW H} {p : List MemPlace} (ht : t ∈ L) (hd : P.underlying t = some d) (hp : plainD d = true) (hok : Value.okWide P w .any base t v)
    (h : DataW.Trod enc P w 0 (fun _ => true) true t v x p) : ∃ n c, hasTy P n t [c] ∧ XRep w (topG w) (.v (.c c)) v := by
  obtain ⟨n, hn⟩ := h
  rw [cells_one (okWide_plain hd hp hok)] at hn
  obtain ⟨cs, h1, h2, _⟩ := trod_has hL n t _ _ _ ht hn
  match cs, h2 with
  | [c], h2 => exact ⟨n, c, h1, h2.1⟩
/-- An argument that is a row of cells. -/
theorem arg_row (hL : closedB P L = true) {t : TypeId} {v : Value} {base : Nat} {d : TypeDesc} {x : DataW H} {p : List MemPlace} (ht : t ∈ L) (hd : P.underlying t = some d) (hp : rowD d = true) (hok : Value.okWide P w .any base t v)
    (h : DataW.Trod enc P w 0 (fun _ => true) true t v x p) : ∃ n cs, hasTy P n t cs ∧ XRep w (topG w) (.v (.agg cs)) v := by
  obtain ⟨n, hn⟩ := h
  obtain ⟨vs, rfl⟩ := okWide_row hd hp hok
  obtain ⟨cs, h1, h2, _⟩ := trod_has hL n t _ _ _ ht hn
  exact ⟨n, cs, h1, vs.toList, by simp, by simpa [Value.cells] using h2⟩
end

/-- A contract over values that came in is a call that writes nothing that was there. -/
theorem calls_top {Z : Pg} {f : FuncId} {xs : List X} {res : Value} {x : X} (hres : ∀ (w : World) (G : Gh) (v : Value), XRep w G x v → v = res) (hc : Ctr Z f xs [] x none []) {W : World} {vs : List Value} (h : All2 (XRep W (topG W)) xs vs) (hg : ∀ g ∈ Z.gv, g.1 < W.heap.size ∧ g.2 W.heap[g.1]?) :
    Calls Z.P f vs.toArray W fun e w' => e = .returned res ∧ Below W.heap.size W w' := by
  have hno : ∀ b o, ¬ ∃ n, (topG W).W b o = .box n := by
    intro b o ⟨n, hn⟩
    simp only [topG] at hn
    split at hn <;> simp at hn
  have hno2 : ∀ b o p, (topG W).W b o ≠ .own p := by
    intro b o p hp
    simp only [topG] at hp
    split at hp <;> simp at hp
  refine (hc.2 W (topG W) vs h (fun b o hb => ?_) (fun j cs hj => by simp at hj) (fun b o n hn => absurd ⟨n, hn⟩ (hno b o)) (fun b o p hp => ?_) (fun g q => ⟨(hg g q).1, (hg g q).2, fun o n hn => hno g.1 o ⟨n, hn⟩, hno2 g.1⟩)).mono ?_
  · simp only [topG] at hb
    split at hb
    · assumption
    · simp at hb
  · simp only [topG] at hp
    split at hp <;> simp at hp
  · rintro e w' ⟨v, G', rfl, hf, _, _, _, hv, _⟩
    refine ⟨by rw [hres _ _ _ hv], hf.os, hf.tape, hf.output, hf.size, fun k hk => hf.block k hk fun o ho => hno k o ho⟩
theorem calls_true {Z : Pg} {f : FuncId} {xs : List X} (hc : Ctr Z f xs [] (.v (.c (.b true))) none []) {W : World} {vs : List Value} (h : All2 (XRep W (topG W)) xs vs) (hg : ∀ g ∈ Z.gv, g.1 < W.heap.size ∧ g.2 W.heap[g.1]? := by intro g hg; exact absurd hg (List.not_mem_nil)) :
    Calls Z.P f vs.toArray W fun e w' => e = .returned (.bool true) ∧ Below W.heap.size W w' :=
  calls_top (fun _ _ _ h => XRep.bool h) hc h hg
end Go.Abs
/- Functions of the library without a body: what they return, they return at once. -/
set_option linter.unusedVariables false
set_option linter.unusedSimpArgs false
namespace Go.Abs
variable {Z : Pg} {st : St} {ty : TypeId} {gate : Bool}

theorem pure_extern {fo : Operand} {args : Array Operand} {ts : Array TypeId} {g gf : Bool} {f : FuncId} {fn : Func} {ext : Array Value → Sem Value} {xs : List X} {res : X}
    (hf : lk Z.T st 0 fo = some (gf, .fn f [])) (ha : lkAll Z.T st ts.toList args.toList = some (g, xs)) (hgf : gate = true → gf = true) (hga : gate = true → g = true)
    (hfn : Z.P.funcs[f]? = some fn) (hname : (fn.name == "runtime.NumGoroutine") = false) (hb : fn.body.isNone = true) (hn : Extern.findNext fn = none) (he : Extern.find fn = some ext)
    (hrun : ∀ (w : World) (G : Gh) (vs : List Value), All2 (XRep w G) xs vs → ∃ v, XRep w G res v ∧ (ext vs.toArray).run Z.P w = .ok v w) :
    PureOk Z st (.call { callee := .value fo, args := args, argTypes := ts }) ty gate res := by
  intro o E G a w ho _ hr hgt
  obtain ⟨cvs, hfv, hcv⟩ := lk_rep hr hf (hgf hgt)
  have hcv0 : cvs = [] := by cases cvs with
    | nil => rfl
    | cons _ _ => exact hcv.elim
  subst hcv0
  have hav := lkAll_rep hr ha (hga hgt)
  obtain ⟨v, hv, hrv⟩ := hrun w G _ hav
  refine ⟨v, hv, ?_⟩
  have hc := run_callFunc_extern hfn hname hb hn he (args.toList.map a.eval).toArray w
  rw [hrv] at hc
  simp only [Result.andThen_ok] at hc
  have hfv' : a.eval fo = .func (.func f) #[] #[] := hfv
  simp [execOp, ho, Go.resolve, hfv', Deferred.ofValue, invoke]
  have hca : args.map a.eval = (args.toList.map a.eval).toArray := by
    rw [← Array.toList_map]
  rw [hca]
  exact hc

theorem put_ret (st : St) (d : Nat) (gate : Bool) (x : X) (sz : Nat) : Sub (st.put d (gate, x)) (st.ret d gate x (some sz)) := by
  cases gate with
  | false => exact Sub.refl _
  | true =>
    refine ⟨fun _ _ h => h, fun _ _ h => h, fun p s h => ?_, .inr rfl⟩
    show ((st.put d (true, x)).addOwn (.t d) sz).own p = some s
    rw [St.addOwn_own]
    split
    · rename_i he
      subst he
      rw [St.put_own, if_pos rfl] at h
      simp at h
    · exact h
/-- A slice that is written out, behind a guard: nobody appends to it. -/
theorem al_buildSliceG {N : Nat} {ops : Array Oper} {rest : List Oper} {K : St → Prop} {o : Oper} {g : Bool} {d : Nat} {t : TypeId} {len : Nat} {parts : Array (Nat × Operand)} {xs : List Operand} {ti : TyI} {e sz by' : Nat} {rs : List (List C)}
    (ho : o.op = .buildSlice t len parts) (hg : gateOf ops st o = some gate) (hd : o.dst = some d) (hN : Nat.ble (d + 1) N = true) (ht : tyAt Z.T t = some ti) (hel : ti.el = some (e, sz, by')) (hp : parts.toList = enumO 0 xs) (hx : Nat.beq xs.length len = true)
    (hrs : rowsOf Z.T st e sz xs = some (g, rs)) (hga : gate = true → g = true) (hbig : Nat.ble (len * sz) 10000 = true)
    (h : AL Z N ops rest K (st.put d (gate, .v (.c (.sl sz rs))))) : AL Z N ops (o :: rest) K st :=
  al_op1 ((op1_buildSlice ho hg hd hN ht hel hp hx hrs hga hbig).sub (put_ret _ _ _ _ _)) h

/-- A call in a region that draws its order, whose result owns nothing. -/
theorem dr_callN {s0 : St} {N : Nat} {ops : Array Oper} {B : List Nat} {k : Nat} {rest : List Oper} {acc : List Lnk} {o : Oper} {Q : St → Prop} {d : Nat} {g gf : Bool} {fo : Operand} {args : Array Operand} {ts : Array TypeId} {f : FuncId} {caps : List Y} {xs : List X} {res : X} (hk : ops[k]? = some o)
    (ho : o.op = .call { callee := .value fo, args := args, argTypes := ts }) (hg : gateOf ops (rs (foot ops o [] []) st) o = some gate) (hd : o.dst = some d) (hN : Nat.ble (d + 1) N = true)
    (hf : lk Z.T (rs (foot ops o [] []) st) 0 fo = some (gf, .fn f caps)) (ha : lkAll Z.T (rs (foot ops o [] []) st) ts.toList args.toList = some (g, xs)) (hgf : gate = true → gf = true) (hga : gate = true → g = true)
    (hs : Ctr Z f (xs ++ caps.map .v) [] res none []) (hc : res.clean = true)
    (hr : Draw Z N s0 ops B (k + 1) rest (acc ++ [(k, { d := some (d, gate, res), drop := [.t d] }, foot ops o [] [])]) (ap { d := some (d, gate, res), drop := [.t d] } st) Q) :
    Draw Z N s0 ops B k (o :: rest) acc st Q := dr_cons hk (by
      have h := ls_call (R := foot ops o [] []) ho hg hd hN hf ha hgf hga hs hc
      rw [show cond gate (Option.map (fun sz => (Pl.t d, sz)) none) none = none from by cases gate <;> rfl] at h
      exact h) hr

/-- A new box in a region that draws its order. -/
theorem ls_alloc {N : Nat} {ops : Array Oper} {o : Oper} {d : Nat} {t : TypeId} {ti : TyI} {R : Foot} (ho : o.op = .alloc t) (hg : gateOf ops (rs R st) o = some true) (hd : o.dst = some d) (hrn : (Nm.l d, true) ∈ R.rn) (ht : tyAt Z.T t = some ti) (hN : Nat.ble (d + 1) N = true) :
    LS Z N ops o { d := some (d, true, .v (.ptr (.l d) 0)), b := some (.l d, ti.z), drop := [.t d] } R st := by
  intro s2 hag hfr
  have hF := hfr _ hrn
  refine (op1_do (gateOf_sub hag.sub hg) (by rw [hd, ho]; exact does_allocG ht hN (hF.1 rfl))).sub ⟨?_, ?_, ?_, by exact .inr rfl⟩
  · intro j e hj
    rw [ap_get] at hj
    rw [St.put_get]
    simp only [Eff.gt] at hj
    by_cases h : d = j
    · subst h; simpa using hj
    · have h' : ¬ j = d := fun e => h e.symm
      rw [if_neg h']
      have hj' : s2.get j = some e := by simpa [h] using hj
      exact hj'
  · intro m cs hm
    rw [ap_box] at hm
    show (s2.addBox (.l d) ti.z).box m = _
    have : (s2.addBox (.l d) ti.z).box m = if Nm.l d = m then some ti.z else (s2.drop (.l d)).box m := getB_cons _ _ _ _
    rw [this]
    simp only [Eff.gb] at hm
    split
    · rename_i he; rw [if_pos he] at hm; exact hm
    · rename_i he
      rw [if_neg he] at hm
      rw [St.drop_box, if_neg (fun e => he e.symm)]
      exact hm
  · intro p s hp
    rw [ap_own] at hp
    rw [St.put_own]
    simp only [Eff.go, List.mem_singleton] at hp
    split
    · rename_i he; rw [if_pos he] at hp; exact hp
    · rename_i he
      rw [if_neg he] at hp
      show (s2.drop (.l d)).own p = _
      rw [St.drop_own, if_neg (by rw [hF.2 p s hp]; simp)]
      exact hp
theorem dr_alloc {s0 : St} {N : Nat} {ops : Array Oper} {B : List Nat} {k : Nat} {rest : List Oper} {acc : List Lnk} {o : Oper} {Q : St → Prop} {d : Nat} {t : TypeId} {ti : TyI} (hk : ops[k]? = some o) (ho : o.op = .alloc t) (hg : gateOf ops (rs (foot ops o [] []) st) o = some true) (hd : o.dst = some d) (ht : tyAt Z.T t = some ti) (hN : Nat.ble (d + 1) N = true)
    (hfr : s0.freshO (.l d, true) = true)
    (hr : Draw Z N s0 ops B (k + 1) rest (acc ++ [(k, { d := some (d, true, .v (.ptr (.l d) 0)), b := some (.l d, ti.z), drop := [.t d] }, { foot ops o [] [] with rn := [(.l d, true)] })]) (ap { d := some (d, true, .v (.ptr (.l d) 0)), b := some (.l d, ti.z), drop := [.t d] } st) Q) :
    Draw Z N s0 ops B k (o :: rest) acc st Q :=
  dr_cons hk (ls_alloc (R := { foot ops o [] [] with rn := [(.l d, true)] }) ho hg hd (by simp) ht hN) hr (by intro n hn; simp only [List.mem_singleton] at hn; subst hn; exact hfr)

/-- The order of strings, as the library has it. -/
def cmpL : List UInt8 → List UInt8 → Int := Lib.compareBytes
theorem run_cmp (P : Program) (l m : List UInt8) (w : World) (G : Gh) (vs : List Value) (h : All2 (XRep w G) [.v (.c (.s l)), .v (.c (.s m))] vs) :
    ∃ v, XRep w G (.v (.c (.i .i64 (cmpL l m)))) v ∧ (Extern.BytealgCompare.compare vs.toArray).run P w = .ok v w := by
  match vs, h with
  | [u, v], h =>
    have h1 := XRep.str h.1
    have h2 := XRep.str h.2.1
    subst h1
    subst h2
    exact ⟨_, CRep.i _ _, Lib.run_compareString _ _ _⟩
end Go.Abs
/- Slices whose elements may be written: they lie in a box, the spare cells are their slot's own. -/
set_option linter.unusedVariables false
set_option linter.unusedSimpArgs false
namespace Go.Abs
variable {Z : Pg}

def St.boxes2 (st : St) (n' n : Nm) (cs : List C) : St := { st with bx := (n', cs) :: (n, []) :: st.bx }
theorem St.boxes2_box (st : St) (n' n : Nm) (cs : List C) (m : Nm) : (st.boxes2 n' n cs).box m = if n' = m then some cs else if n = m then some [] else st.box m := by
  show getB ((n', cs) :: (n, []) :: st.bx) m = _
  rw [getB_cons, getB_cons]; rfl

/-- In place: the cells from the row's beginning on, a box's or one's own, become a new box. -/
theorem Rel.intoBox {E : Env} {G : Gh} {st : St} {a : Act} {w w1 : World} (h : Rel E G st a w) {n' n : Nm} {p : Pl} {blk L : Nat} {cs : List C} (hloc : ∃ j, n' = .l j) (hnl : ∃ j, n = .l j)
    (hfr : FreshG st (n', true)) (hfo : FreshG st (n, false)) (hF : ∀ o, o < L → G.W blk o = .box n ∨ G.W blk o = .own p)
    (h1 : w1.os = w.os) (h2 : w1.tape = w.tape) (h3 : w1.output = w.output) (h4 : w1.heap.size = w.heap.size) (h5 : ∀ b, (∀ o, ¬ (b = blk ∧ o < L ∧ G.W b o = .own p)) → w1.heap[b]? = w.heap[b]?)
    (h6 : ∀ b o, ¬ (b = blk ∧ o < L ∧ G.W b o = .own p) → w1.cell? ⟨b, o, none⟩ = w.cell? ⟨b, o, none⟩) (h8 : ∀ b, markOf w1 b = markOf w b) (h9 : ∀ b, w1.shape? b = w.shape? b)
    (hcs : ∀ (j : Nat) (c : C), cs[j]? = some c → j < L ∧ w.frozen? ⟨blk, j, none⟩ = false ∧ ∃ v, w1.cell? ⟨blk, j, none⟩ = some v ∧ CRep w G.S c v) :
    Rel E { W := fun b o => if b = blk ∧ o < L then .box n' else G.W b o, A := fun m => if m = n' then (blk, 0) else G.A m } ((st.unown p).boxes2 n' n cs) a w1 := by
  have hS : ∀ b o, G.S b o → Gh.S { W := fun b o => if b = blk ∧ o < L then .box n' else G.W b o, A := fun m => if m = n' then (blk, 0) else G.A m } b o := fun b o hs => by
    unfold Gh.S at *
    dsimp only
    rw [if_neg (by rintro ⟨rfl, ho⟩; rcases hF o ho with e | e <;> rw [e] at hs <;> simp at hs)]
    exact hs
  have hcell : ∀ b o, G.W b o ≠ .own p → w1.cell? ⟨b, o, none⟩ = w.cell? ⟨b, o, none⟩ := fun b o hne => h6 b o fun hh => hne hh.2.2
  have hc : ∀ b o, G.S b o → w1.cell? ⟨b, o, none⟩ = w.cell? ⟨b, o, none⟩ := fun b o hs => hcell b o (by unfold Gh.S at hs; rw [hs]; simp)
  constructor
  · exact h.df
  · intro k g x hk
    obtain ⟨u, hu, q1, q2⟩ := h.tm k g x hk
    refine ⟨u, hu, fun hg => (q1 hg).mono hS hc (fun m hm => ?_), q2⟩
    have : m ≠ n' := fun e => by subst e; have := hfr.1 rfl k g x hk; rw [hm] at this; simp at this
    simp [this]
  · intro m ds hm j c hj
    rw [St.boxes2_box] at hm
    split at hm
    · rename_i he; subst he
      simp only [Option.some.injEq] at hm; subst hm
      obtain ⟨q1, q2, v, q3, q4⟩ := hcs j c hj
      dsimp only
      rw [if_pos rfl]
      dsimp only
      rw [Nat.zero_add, if_pos ⟨rfl, q1⟩]
      exact ⟨rfl, by rw [frozen_of (h8 _)]; exact q2, v, q3, q4.mono hS hc⟩
    · rename_i hne
      split at hm
      · simp only [Option.some.injEq] at hm; subst hm; simp at hj
      · rename_i hne2
        obtain ⟨q1, q2, u, q3, q4⟩ := h.bx m ds hm j c hj
        have hne' : ¬ m = n' := fun e => hne e.symm
        dsimp only
        rw [if_neg hne']
        refine ⟨?_, by rw [frozen_of (h8 _)]; exact q2, u, by rw [hcell _ _ (by rw [q1]; simp)]; exact q3, q4.mono hS hc⟩
        rw [if_neg]
        · exact q1
        · rintro ⟨e1, ho⟩
          rcases hF _ ho with e | e <;> rw [← e1, q1] at e
          · injection e with e; exact hne2 e.symm
          · simp at e
  · intro r s hr
    have hr2 : (st.unown p).own r = some s := hr
    rw [St.unown_own] at hr2
    split at hr2
    · simp at hr2
    · rename_i hrp
      obtain ⟨u, hu, ho⟩ := h.ow r s hr2
      refine ⟨u, ?_, ?_⟩
      · cases r with
        | t k => exact hu
        | b m off =>
          have hm1 : ¬ m = n' := fun e => by
            have := hfr.2 _ _ hr2; subst e; simp [Pl.inBox, Nm.beq_self] at this
          have hm2 : ¬ m = n := fun e => by
            have := hfo.2 _ _ hr2; subst e; simp [Pl.inBox, Nm.beq_self] at this
          refine ⟨?_, ?_⟩
          · dsimp only; rw [if_neg hm1, hcell _ _ (by rw [hu.2]; simp)]; exact hu.1
          · dsimp only
            rw [if_neg hm1, if_neg]
            · exact hu.2
            · rintro ⟨e1, ho'⟩
              rcases hF _ ho' with e | e <;> rw [← e1, hu.2] at e
              · injection e with e; exact hm2 e
              · simp at e
      · rcases ho with ho | ⟨b2, len, cap, e, q1, q2, q3, q4⟩
        · exact .inl ho
        · refine .inr ⟨b2, len, cap, e, q1, q2, ⟨by rw [h9]; exact q3.1, by rw [h8]; exact q3.2⟩, fun o ho1 ho2 => ?_⟩
          obtain ⟨q5, q6⟩ := q4 o ho1 ho2
          refine ⟨?_, by rw [frozen_of (h8 _)]; exact q6⟩
          dsimp only
          rw [if_neg]
          · exact q5
          · rintro ⟨e1, ho'⟩
            rcases hF _ ho' with e | e <;> rw [← e1, q5] at e
            · simp at e
            · injection e with e; exact hrp e
  · intro b o hb
    rw [h4]
    dsimp only at hb
    split at hb
    · rename_i hf
      obtain ⟨rfl, ho⟩ := hf
      refine h.wf b o ?_
      rcases hF o ho with e | e <;> rw [e] <;> simp
    · exact h.wf b o hb
  · intro b o m hb hn
    dsimp only at hn
    split at hn
    · rename_i hf
      obtain ⟨rfl, ho⟩ := hf
      rcases hF o ho with e | e
      · exact h.olB b o _ hb e
      · exact .inr (h.olO b o _ hb e)
    · exact h.olB b o m hb hn
  · intro b o q hb hn
    dsimp only at hn
    split at hn
    · simp at hn
    · exact h.olO b o q hb hn
  · exact h.nt
  · intro j
    dsimp only
    rw [if_neg (by obtain ⟨m', rfl⟩ := hloc; simp)]
    exact h.oA j
  · intro b o hi
    exact hS b o (h.im b o hi)
  · intro b o hb hi
    dsimp only at hi
    split at hi
    · simp at hi
    · exact h.im' b o hb hi
  · refine h.fr.trans ⟨h1, h2, h3, by rw [h4]; exact Nat.le_refl _, ?_, ?_, fun b _ => h8 _, fun b _ => h9 _⟩
    · intro b hb hM
      refine h5 b fun o hf => hM o (.inr ?_)
      exact h.olO b o p hb hf.2.2
    · intro b o hb hM
      refine h6 b o fun hf => hM (.inr ?_)
      exact h.olO b o p hb hf.2.2
  · exact h.hB
  · intro b o hb
    dsimp only
    split
    · rename_i hf
      obtain ⟨rfl, ho⟩ := hf
      exfalso
      rcases hF o ho with e | e
      · obtain ⟨m, rfl⟩ := hnl
        obtain ⟨j, hj⟩ := (h.lo b o hb).1 _ e
        simp at hj
      · exact (h.lo b o hb).2 _ e
    · exact h.lo b o hb
  · intro t k ds hm hne
    obtain ⟨m', rfl⟩ := hloc
    obtain ⟨m, rfl⟩ := hnl
    rw [St.boxes2_box, if_neg (by simp), if_neg (by simp)] at hm
    obtain ⟨q1, q2, x, q3, q4⟩ := h.bd t k ds hm hne
    obtain ⟨c0, hc0⟩ : ∃ c0, ds[0]? = some c0 := by
      cases ds with
      | nil => exact absurd rfl hne
      | cons c0 r => exact ⟨c0, rfl⟩
    obtain ⟨r1, _⟩ := h.bx _ ds hm 0 c0 hc0
    rw [q1] at r1
    dsimp only
    rw [if_neg (by simp), h9, hcell _ _ (by rw [r1]; simp)]
    exact ⟨q1, q2, x, q3, q4⟩
  · intro x hx
    obtain ⟨q1, q2, q3⟩ := h.mp x hx
    have hne : ∀ o, ¬ (x.1 = blk ∧ o < L) := fun o ⟨e, ho⟩ => by
      rcases hF o ho with q | q
      · exact (q3 o).1 n (by rw [e]; exact q)
      · exact (q3 o).2 p (by rw [e]; exact q)
    refine ⟨q1.of_same (h5 _ fun o hh => hne o ⟨hh.1, hh.2.1⟩), q2, fun o => ?_⟩
    dsimp only
    rw [if_neg (hne o)]
    exact q3 o

/-- A box without cells says nothing. -/
theorem Rel.emptyBox {E : Env} {G : Gh} {st : St} {a : Act} {w : World} (h : Rel E G st a w) (n : Nm) : Rel E G { st with bx := (n, []) :: st.bx } a w where
  df := h.df
  tm := h.tm
  bx := by
    intro m cs hm
    have : St.box { st with bx := (n, []) :: st.bx } m = if n = m then some [] else st.box m := getB_cons _ _ _ _
    rw [this] at hm
    split at hm
    · simp only [Option.some.injEq] at hm; subst hm; intro j c hj; simp at hj
    · exact h.bx m cs hm
  ow := h.ow
  wf := h.wf
  olB := h.olB
  olO := h.olO
  nt := h.nt
  oA := h.oA
  im := h.im
  im' := h.im'
  fr := h.fr
  hB := h.hB
  lo := h.lo
  bd := by
    intro t k ds hm hne
    have hm2 : getB ((n, []) :: st.bx) (.bd t k) = some ds := hm
    rw [getB_cons] at hm2
    split at hm2
    · simp only [Option.some.injEq] at hm2; exact absurd hm2.symm hne
    · exact h.bd t k ds hm2 hne
  mp := h.mp

/-- A new row whose first cells are a box; 'p' owns the rest. -/
theorem Rel.newMs {E : Env} {G : Gh} {st : St} {a : Act} {w : World} (h : Rel E G st a w) (p : Pl) {j' : Nat} (hfr : FreshG st (.l j', true)) {cells : Array Value} {e : TypeId} (hpe : ∀ t k o, p = .b (.bd t k) o → e = t % 4096) {sz len cap : Nat} {cs : List C} (hc : len ≤ cap) (hsz : cells.size = cap * sz) (hl : cs.length = len * sz)
    (hrep : ∀ (j : Nat) (c : C), cs[j]? = some c → ∃ v, cells[j]? = some v ∧ CRep w G.S c v) :
    ∃ G1, Rel E G1 ((st.unown p).addBox (.l j') cs) a (w.drew.alloc (.cells cells e)) ∧ G1.A (.l j') = (w.heap.size, 0) ∧ OwnAt E.B (w.drew.alloc (.cells cells e)) G1 p sz (.slice (some ⟨w.heap.size, 0, none⟩) len cap) := by
  let f : Nat → Who := fun o => if o < len * sz then .box (.l j') else if o < cap * sz then .own p else .none
  have hfr' : Fr (fun _ _ => False) w.heap.size w (w.drew.alloc (.cells cells e)) := by
    have h1 := fr_alloc w.drew (.cells cells e)
    exact ⟨h1.os, h1.tape, h1.output, h1.size, h1.block, h1.cell, h1.mark, h1.shape⟩
  refine ⟨(G.push w.heap.size f).name (.l j') (w.heap.size, 0), ?_, by simp [Gh.name], ?_⟩
  · refine Rel.addBox ?_ ?_ rfl
    · refine ((h.sub (st.unown_sub p)).sub (St.drop_sub _ (.l j'))).grow hfr' ?_ (St.drop_same (st := st.unown p) rfl (fun k g x hk => hfr.1 rfl k g x hk) _ _) ?_
      · intro b o hb
        have : ¬ b = w.heap.size := by omega
        simp [Gh.name, Gh.push, this]
      · intro b o hne
        simp only [Gh.name, Gh.push] at hne
        split at hne
        · rename_i hb; subst hb; simp
        · have := h.wf b o hne; simp; omega
    · intro j c hj
      have hjl : j < len * sz := by rw [← hl]; exact (List.getElem?_eq_some_iff.1 hj).1
      obtain ⟨v, hv', hr⟩ := hrep j c hj
      refine ⟨by simp [Gh.name, Gh.push, f, hjl], by simp only [Gh.name, if_true]; exact World.frozen?_alloc_new w.drew cells e _, v, ?_, ?_⟩
      · simp only [Gh.name, if_true]
        rw [Nat.zero_add]
        exact (World.cell?_alloc_new w.drew cells e j).trans hv'
      · refine hr.mono ?_ ?_
        · intro b o hs
          have hb := h.wf b o (by unfold Gh.S at hs; rw [hs]; simp)
          have : ¬ b = w.heap.size := by omega
          simpa [Gh.S, Gh.name, Gh.push, this] using hs
        · intro b o hs
          have hb := h.wf b o (by unfold Gh.S at hs; rw [hs]; simp)
          exact hfr'.cell b o hb (fun x => x)
  · refine .inr ⟨w.heap.size, len, cap, e, rfl, ⟨hc, Nat.le_trans h.hB h.fr.size, hpe⟩, ⟨?_, front_new w.drew cells e _⟩, fun o' h1 h2 => ?_⟩
    · unfold World.shape?
      rw [show (w.drew.alloc (.cells cells e)).heap[w.heap.size]? = some (.cells cells e) from Array.getElem?_push_size]
      simp [hsz]
    · have hn : ¬ o' < len * sz := by omega
      exact ⟨by simp [Gh.name, Gh.push, f, hn, h2], World.frozen?_alloc_new w.drew cells e o'⟩

theorem flat_get {sz : Nat} : ∀ {xs : List (List C)} {m : Nat} {c : C}, (∀ (i : Nat) (row : List C), xs[i]? = some row → row.length = sz) → xs.flatten[m]? = some c →
    ∃ (i j : Nat) (row : List C), m = i * sz + j ∧ j < sz ∧ xs[i]? = some row ∧ row[j]? = some c
  | [], m, c, _, h => by simp at h
  | r :: xs, m, c, hr, h => by
    have h0 : r.length = sz := hr 0 r rfl
    rw [List.flatten_cons, List.getElem?_append] at h
    split at h
    · rename_i hm
      exact ⟨0, m, r, by simp, by omega, rfl, h⟩
    · rename_i hm
      obtain ⟨i, j, row, e, hj, h1, h2⟩ := flat_get (xs := xs) (fun i row hi => hr (i + 1) row (by simpa using hi)) h
      exact ⟨i + 1, j, row, by rw [Nat.succ_mul]; omega, hj, by simpa using h1, h2⟩
theorem flat_len {sz : Nat} : ∀ {xs : List (List C)}, (∀ (i : Nat) (row : List C), xs[i]? = some row → row.length = sz) → xs.flatten.length = xs.length * sz
  | [], _ => by simp
  | r :: xs, hr => by
    have h0 : r.length = sz := hr 0 r rfl
    rw [List.flatten_cons, List.length_append, flat_len (xs := xs) (fun i row hi => hr (i + 1) row (by simpa using hi)), List.length_cons, Nat.succ_mul]; omega

theorem append_ms {E : Env} {G : Gh} {st : St} {a : Act} {w : World} (hr : Rel E G st a w) {p : Pl} {j' : Nat} {n : Nm} {sz e by' L : Nat} {cs : List C} {xs : List (List C)} {v' xv : Value} {t ty : TypeId} {jf : TypeInfo} {ze : Value}
    (hu : Z.P.underlying t = some (.slice e)) (hinfo : Z.P.info? e = some jf) (hsz : jf.size = sz) (hby : jf.bytes = by') (hsz0 : sz ≠ 0) (hze : jf.zero = some ze) (hzec : ze.cells.size = sz)
    (hown : OwnAt E.B w G p sz v') (hnlo : ∃ j, n = .l j) (hfr : FreshG st (.l j', true)) (hfo : FreshG st (n, false))
    (hv : (v' = .slice none 0 0 ∧ L = 0 ∧ cs = []) ∨ ∃ blk cap, v' = .slice (some ⟨blk, 0, none⟩) L cap ∧ ∀ (j : Nat) (c : C), cs[j]? = some c → G.W blk j = .box n ∧ w.frozen? ⟨blk, j, none⟩ = false ∧ ∃ v, w.cell? ⟨blk, j, none⟩ = some v ∧ CRep w G.S c v)
    (hcl : cs.length = L * sz) (hxr : CRep w G.S (.sl sz xs) xv) (hx1 : 1 ≤ xs.length) (hbig : (L + xs.length) * by' ≤ 140737488355328) (hmax : L + xs.length ≤ 9223372036854775807) (hpe : ∀ t k o, p = .b (.bd t k) o → e = t % 4096 := by intro _ _ _ hh; simp at hh) :
    ∃ G1 w1 u cap', (Builtin.append_ #[t, t] ty #[v', xv]).run Z.P w = .ok u w1 ∧ Rel E G1 ((st.unown p).boxes2 (.l j') n (cs ++ xs.flatten)) a w1 ∧
      u = .slice (some ⟨(G1.A (.l j')).1, (G1.A (.l j')).2 + 0, none⟩) (L + xs.length) cap' ∧ L + xs.length ≤ cap' ∧ OwnAt E.B w1 G1 p sz u := by
  rcases CRep.sl_cases hxr with ⟨xa, hxv, rfl⟩ | ⟨xb, xo, m, mc, hxv, hxl⟩
  · simp at hx1
  rw [hxv] at hxr
  obtain ⟨news, hnl, hncell, hnone, hnrep⟩ := slice_vals hxr
  subst hxl
  have hrow : ∀ (i : Nat) (row : List C), xs[i]? = some row → row.length = sz := fun i row hi => (hxr.elem.2.2.2 i row hi).1
  have hfl := flat_len hrow
  have hnew : ∀ (j : Nat) (c : C), xs.flatten[j]? = some c → ∃ v, news[j]? = some v ∧ CRep w G.S c v := by
    intro j c hj
    obtain ⟨i, k, row, rfl, hk, h1, h2⟩ := flat_get hrow hj
    exact hnrep i k row c h1 h2
  -- a row of its own, out of these cells
  have grow : ∀ (olds : List Value) (cap : Nat), olds.length = L * sz → (∀ (j : Nat) (c : C), cs[j]? = some c → ∃ v, olds[j]? = some v ∧ CRep w G.S c v) → L + xs.length ≤ cap →
      ∃ G1, Rel E G1 ((st.unown p).boxes2 (.l j') n (cs ++ xs.flatten)) a (w.drew.alloc (.cells (olds.toArray ++ news.toArray ++ Builtin.zeroCells ze.cells (cap - (L + xs.length))) e)) ∧
        G1.A (.l j') = (w.heap.size, 0) ∧ OwnAt E.B (w.drew.alloc (.cells (olds.toArray ++ news.toArray ++ Builtin.zeroCells ze.cells (cap - (L + xs.length))) e)) G1 p sz (.slice (some ⟨w.heap.size, 0, none⟩) (L + xs.length) cap) := by
    intro olds cap hol horep hge
    obtain ⟨G1, q1, q2, q3⟩ := hr.newMs p hfr (e := e) hpe (sz := sz) (len := L + xs.length) (cap := cap) (cs := cs ++ xs.flatten) (cells := olds.toArray ++ news.toArray ++ Builtin.zeroCells ze.cells (cap - (L + xs.length))) hge
      (by simp only [Array.size_append, List.size_toArray, size_zeroCells, hzec, hnl, hol, ← Nat.add_mul]; congr 1; omega) (by rw [List.length_append, hcl, hfl, Nat.add_mul]) (fun j c hj => by
        rw [List.getElem?_append] at hj
        split at hj
        · obtain ⟨v, h1, h2⟩ := horep j c hj
          have hlt := (List.getElem?_eq_some_iff.1 h1).1
          refine ⟨v, ?_, h2⟩
          rw [Array.getElem?_append_left (by simp; omega), Array.getElem?_append_left (by simpa using hlt)]
          simpa using h1
        · rename_i hge2
          obtain ⟨v, h1, h2⟩ := hnew _ c hj
          have hlt := (List.getElem?_eq_some_iff.1 h1).1
          refine ⟨v, ?_, h2⟩
          rw [Array.getElem?_append_left (by simp; omega), Array.getElem?_append_right (by simp; omega)]
          have : j - olds.toArray.size = j - cs.length := by simp [hol, hcl]
          rw [this]
          simpa using h1)
    refine ⟨G1, ?_, q2, q3⟩
    by_cases hnn : n = .l j'
    · refine Rel.sub (st := (st.unown p).addBox (.l j') (cs ++ xs.flatten)) (st' := (st.unown p).boxes2 (.l j') n (cs ++ xs.flatten)) ⟨fun k e hk => hk, fun m ds hm => ?_, fun q s hq => ?_, .inr rfl⟩ q1
      · rw [St.boxes2_box] at hm
        have hb : ((st.unown p).addBox (.l j') (cs ++ xs.flatten)).box m = if Nm.l j' = m then some (cs ++ xs.flatten) else ((st.unown p).drop (.l j')).box m := getB_cons _ _ _ _
        rw [hb]
        split at hm
        · rename_i he; rw [if_pos he]; exact hm
        · rename_i he
          rw [hnn, if_neg he] at hm
          rw [if_neg he, St.drop_box, if_neg (fun e => he e.symm)]; exact hm
      · show ((st.unown p).drop (.l j')).own q = _
        rw [St.drop_own]
        have hq' : (st.unown p).own q = some s := hq
        have hq2 := hq'
        rw [St.unown_own] at hq2
        split at hq2
        · simp at hq2
        · rw [if_neg (by rw [hfr.2 _ _ hq2]; simp)]; exact hq'
    · refine Rel.sub (st := { (st.unown p).addBox (.l j') (cs ++ xs.flatten) with bx := (n, []) :: ((st.unown p).addBox (.l j') (cs ++ xs.flatten)).bx }) (st' := (st.unown p).boxes2 (.l j') n (cs ++ xs.flatten)) ⟨fun k e hk => hk, fun m ds hm => ?_, fun q s hq => ?_, .inr rfl⟩ (q1.emptyBox n)
      · rw [St.boxes2_box] at hm
        show getB ((n, []) :: (Nm.l j', cs ++ xs.flatten) :: _) m = _
        rw [getB_cons, getB_cons]
        split at hm
        · rename_i he
          subst he
          rw [if_neg hnn, if_pos rfl]; exact hm
        · rename_i he
          split at hm
          · rename_i he2; rw [if_pos he2]; exact hm
          · rename_i he2
            rw [if_neg he2, if_neg he]
            show ((st.unown p).drop (.l j')).box m = _
            rw [St.drop_box, if_neg (fun e => he e.symm)]; exact hm
      · show ((st.unown p).drop (.l j')).own q = _
        rw [St.drop_own]
        have hq' : (st.unown p).own q = some s := hq
        have hq2 := hq'
        rw [St.unown_own] at hq2
        split at hq2
        · simp at hq2
        · rw [if_neg (by rw [hfr.2 _ _ hq2]; simp)]; exact hq'
  rcases hv with ⟨hvn, hL, hcs⟩ | ⟨blk, cap, hvs, hbox⟩
  · subst hvn; subst hL; subst hcs
    have hrun := run_append_nil (P := Z.P) w t ty e jf ze hu hinfo hze ⟨xb, xo, none⟩ xs.length mc news (by rw [hnl, hsz]) hncell (by omega) (by omega) (by rw [hby]; simp only [Nat.zero_add] at hbig; omega)
    have hge := grownCap_ge w xs.length 0 e
    obtain ⟨G1, q1, q2, q3⟩ := grow [] (grownCap w xs.length 0 e) (by simp) (fun j c hj => by simp at hj) (by omega)
    rw [Nat.zero_add] at q1 q3 ⊢
    refine ⟨G1, _, _, _, by rw [hxv]; exact hrun, by simpa using q1, ?_, hge, by simpa using q3⟩
    rw [q2]
  · subst hvs
    rcases hown with ha0 | ⟨blk2, len2, cap2, e2, hv2, hlc2, ⟨hshape, hfr0⟩, hspare⟩
    · simp at ha0
    simp only [Value.slice.injEq, Option.some.injEq, Addr.mk.injEq] at hv2
    obtain ⟨⟨rfl, _⟩, rfl, rfl⟩ := hv2
    by_cases hroom : L + xs.length ≤ cap
    · have hfit : (L + xs.length) * sz ≤ cap * sz := Nat.mul_le_mul_right _ hroom
      rw [Nat.add_mul] at hfit
      have hsome : ∀ j, j < news.length → (w.cell? ⟨blk, L * sz + j, none⟩).isSome = true := by
        intro j hj
        unfold World.shape? at hshape
        unfold World.cell?
        split at hshape
        · rename_i c e3 fz hheap
          simp only [Option.some.injEq, Prod.mk.injEq] at hshape
          obtain ⟨_, hcs⟩ := hshape
          simp only [hheap]
          simp
          omega
        · simp at hshape
      have hst := run_storeCells_cells (P := Z.P) blk (L * sz) news 0 w (by simpa using hsome) (fun j hj => by
        simpa using (hspare (L * sz + j) (by omega) (by omega)).2) hnone
      rw [Nat.add_zero] at hst
      obtain ⟨f1, f2, f3, f4, f5, f6, f7, f8, f9⟩ := setCells_facts blk news (L * sz) w hsome
      have hrun : (Builtin.append_ #[t, t] ty #[.slice (some ⟨blk, 0, none⟩) L cap, .slice (some ⟨xb, xo, none⟩) xs.length mc]).run Z.P w = .ok (.slice (some ⟨blk, 0, none⟩) (L + xs.length) cap) (w.setCells blk (L * sz) news) := by
        have hf := run_firstCells_some (P := Z.P) w sz xs.length ⟨xb, xo, none⟩ xs.length mc news hnl hncell
        simp [Builtin.append_, run_underlying hu, sizeOf, typeInfo, hinfo, hsz, Builtin.lenOf, hroom, hf, addr_add, hst]
      have hF : ∀ o, o < (L + xs.length) * sz → G.W blk o = .box n ∨ G.W blk o = .own p := by
        intro o ho
        rw [Nat.add_mul] at ho
        by_cases hol : o < L * sz
        · exact .inl (hbox o _ (List.getElem?_eq_getElem (by omega))).1
        · exact .inr (hspare o (by omega) (by omega)).1
      have hrange : ∀ b o, ¬ (b = blk ∧ o < (L + xs.length) * sz ∧ G.W b o = .own p) → ¬ (b = blk ∧ L * sz ≤ o ∧ o < L * sz + news.length) := by
        rintro b o hn ⟨rfl, h1, h2⟩
        exact hn ⟨rfl, by rw [Nat.add_mul]; omega, (hspare o h1 (by omega)).1⟩
      have hrel := hr.intoBox (n' := .l j') (n := n) (p := p) (blk := blk) (L := (L + xs.length) * sz) (cs := cs ++ xs.flatten) (w1 := w.setCells blk (L * sz) news) ⟨_, rfl⟩ hnlo hfr hfo hF f1 f2 f3 f4 (fun b hb => by
          by_cases hbb : b = blk
          · subst hbb
            by_cases hz : news.length = 0
            · have hn0 : news = [] := List.eq_nil_of_length_eq_zero hz
              rw [hn0]; rfl
            · exact absurd ⟨rfl, Nat.le_refl _, by omega⟩ (hrange b (L * sz) (hb (L * sz)))
          · exact f5 b hbb) (fun b o hb => f6 b o (hrange b o hb)) f8 f9 (fun j c hj => by
            rw [List.getElem?_append] at hj
            split at hj
            · rename_i hlt
              obtain ⟨q1, q2, v, q3, q4⟩ := hbox j c hj
              refine ⟨by rw [Nat.add_mul]; omega, q2, v, ?_, q4⟩
              rw [f6 blk j (by rintro ⟨_, h1, _⟩; omega)]; exact q3
            · rename_i hge
              obtain ⟨v, h1, h2⟩ := hnew _ c hj
              have hlt := (List.getElem?_eq_some_iff.1 h1).1
              have hj2 : j = L * sz + (j - cs.length) := by omega
              refine ⟨by rw [Nat.add_mul]; omega, (hspare j (by omega) (by omega)).2, v, ?_, h2⟩
              rw [hj2]; exact f7 _ v h1)
      refine ⟨_, _, _, _, by rw [hxv]; exact hrun, hrel, ?_, hroom, .inr ⟨blk, L + xs.length, cap, e2, rfl, ⟨hroom, hlc2.2⟩, ⟨by rw [f9]; exact hshape, by rw [f8]; exact front_mono hfr0 (by rw [Nat.add_mul]; omega)⟩, fun o' h1 h2 => ?_⟩⟩
      · dsimp only; rw [if_pos rfl]
      · have h1' := h1
        rw [Nat.add_mul] at h1
        obtain ⟨q5, q6⟩ := hspare o' (by omega) h2
        refine ⟨?_, by rw [frozen_of (f8 _)]; exact q6⟩
        dsimp only
        rw [if_neg (by rintro ⟨_, h3⟩; omega)]
        exact q5
    · obtain ⟨olds, hol, hor⟩ := vals_of (R := fun j v => w.cell? ⟨blk, j, none⟩ = some v ∧ ∃ c, cs[j]? = some c ∧ CRep w G.S c v) (L * sz) fun j hj => by
        have hc := List.getElem?_eq_getElem (l := cs) (i := j) (by omega)
        obtain ⟨_, _, v, q3, q4⟩ := hbox j _ hc
        exact ⟨v, q3, _, hc, q4⟩
      have hrun := run_append_grow (P := Z.P) w t ty e jf ze hu hinfo hze ⟨blk, 0, none⟩ L cap olds (by rw [hol, hsz]) (fun j v hj => by rw [addr_add, Nat.zero_add]; exact (hor j v hj).1) ⟨xb, xo, none⟩ xs.length mc news (by rw [hnl, hsz]) hncell (by omega) (by omega) (growslice_fits (by omega) (by rw [hby]; exact hbig))
      have hge := grownCap_ge w (L + xs.length) cap e
      obtain ⟨G1, q1, q2, q3⟩ := grow olds (grownCap w (L + xs.length) cap e) hol (fun j c hj => by
        have hlt := (List.getElem?_eq_some_iff.1 hj).1
        have hv := List.getElem?_eq_getElem (l := olds) (i := j) (by omega)
        obtain ⟨_, c', h1, h2⟩ := hor j _ hv
        rw [hj] at h1; simp only [Option.some.injEq] at h1; subst h1
        exact ⟨_, hv, h2⟩) hge
      refine ⟨G1, _, _, _, by rw [hxv]; exact hrun, q1, ?_, hge, q3⟩
      rw [q2]

section
variable {N : Nat} {st : St} {ty : TypeId}
def St.msApp (st : St) (d k j' : Nat) (n : Nm) (sz L : Nat) (cs : List C) : St := (((st.unown (.t k)).boxes2 (.l j') n cs).put d (true, .v (.ms (.l j') sz 0 L))).addOwn (.t d) sz

theorem does_msApp {d k j' : Nat} {x : Operand} {t : TypeId} {sz e by' L : Nat} {n : Nm} {cs : List C} {xs : List (List C)} {ti : TyI} {y : Y} (hs : st.get k = some (true, .v y)) (hw : st.own (.t k) = some sz)
    (hx : lk Z.T st t x = some (true, .v (.c (.sl sz xs)))) (ht : tyAt Z.T t = some ti) (hel : ti.el = some (e, sz, by')) (hN : Nat.ble (d + 1) N = true) (hkd : Nat.beq k d = false)
    (hnl : ∃ j, n = .l j) (hfr : FreshG st (.l j', true)) (hfo : FreshG st (n, false)) (hcl : cs.length = L * sz) (hx1 : 1 ≤ xs.length) (hbig : (L + xs.length) * by' ≤ 140737488355328) (hmax : L + xs.length ≤ 9223372036854775807)
    (hy : ∀ (E : Env) (G : Gh) (a : Act) (w : World) (v' : Value), Rel E G st a w → YRep w G y v' → OwnAt E.B w G (.t k) sz v' → (v' = .slice none 0 0 ∧ L = 0 ∧ cs = []) ∨ ∃ blk cap, v' = .slice (some ⟨blk, 0, none⟩) L cap ∧ ∀ (j : Nat) (c : C), cs[j]? = some c → G.W blk j = .box n ∧ w.frozen? ⟨blk, j, none⟩ = false ∧ ∃ v, w.cell? ⟨blk, j, none⟩ = some v ∧ CRep w G.S c v) :
    Does Z N st (some d) (.call { callee := .builtin .append, args := #[.tmp k, x], argTypes := #[t, t] }) ty (st.msApp d k j' n sz (L + xs.length) (cs ++ xs.flatten)) := by
  intro o E G a w hd ho _ hr hE K Q hK
  have hdN : d < E.nt := by rw [hE.nt]; exact Nat.le_of_ble_eq_true hN
  have hkd' : ¬ d = k := fun e => by subst e; simp at hkd
  obtain ⟨hu, jf, ze, hinfo, hsz, hby, hsz0, hze, hzec⟩ := (Z.tyOk ht).sl e sz by' hel
  obtain ⟨v, hv, hv1, _⟩ := hr.tm k true _ hs
  obtain ⟨v', hv', hown⟩ := hr.ow _ _ hw
  have : v' = v := by
    have hv2 : a.tmps[k]? = some v' := hv'
    rw [hv] at hv2; simpa using hv2.symm
  subst this
  have hxr : CRep w G.S (.sl sz xs) (a.eval x) := lk_rep hr hx rfl
  have hev : a.eval (.tmp k) = v' := by simp [Act.eval, Array.getD_eq_getD_getElem?, hv]
  have hexec : (execOp a.eval o).run Z.P w = ((Builtin.append_ #[t, t] o.type #[v', a.eval x]).run Z.P w).andThen fun u w' => .ok (.value u) w' := by
    simp [execOp, ho, Go.resolve, invoke, builtin, hev]
  obtain ⟨G1, w1, u, cap', hrun, hrel, hu1, hcap, ho'⟩ := append_ms hr (p := .t k) (ty := o.type) hu hinfo hsz hby hsz0 hze hzec hown hnl hfr hfo (hy E G a w v' hr (hv1 rfl) hown) hcl hxr hx1 hbig hmax
  unfold Oper.wp
  rw [hexec, hrun]
  simp only [Result.andThen_ok]
  rw [Oper.upon_value, hd]
  have hput := hrel.put hdN (g := true) (x := .v (.ms (.l j') sz 0 (L + xs.length))) (v := u) (fun _ => .inr ⟨cap', hcap, hu1⟩) (fun hf => by simp at hf)
  have := hput.relabel (q := .t d) ho' (by rw [St.put_own, if_pos rfl]) (by
    show (a.put (some d) u).tmps[d]? = _
    rw [act_put_get (by rw [hr.nt]; exact hdN)]; simp)
  refine hK (G1.relabel (.t k) (.t d)) u w1 (Rel.sub (st := (((((st.unown (.t k)).boxes2 (.l j') n (cs ++ xs.flatten)).put d (true, .v (.ms (.l j') sz 0 (L + xs.length)))).unown (.t k)).addOwn (.t d) sz)) (st' := st.msApp d k j' n sz (L + xs.length) (cs ++ xs.flatten)) ⟨fun _ _ q => q, fun _ _ q => q, ?_, .inr rfl⟩ this)
  intro r s hrs
  unfold St.msApp at hrs
  rw [St.addOwn_own] at hrs ⊢
  split at hrs
  · rename_i he; rw [if_pos he]; exact hrs
  · rename_i he
    rw [if_neg he, St.unown_own]
    split
    · rename_i hk
      subst hk
      rw [St.put_own, if_neg (by simp; exact fun e => hkd' e.symm)] at hrs
      have h2 : (st.unown (.t k)).own (.t k) = some s := hrs
      rw [St.unown_own, if_pos rfl] at h2
      simp at h2
    · exact hrs

theorem msApp_sub {s2 : St} {d k j' : Nat} {n : Nm} {sz L : Nat} {cs : List C} : Sub (ap { d := some (d, true, .v (.ms (.l j') sz 0 L)), b := some (.l j', cs), b2 := some (n, []), drop := [.t d, .t k], gain := some (.t d, sz) } s2) (s2.msApp d k j' n sz L cs) where
  t := fun j e hj => by
    rw [ap_get] at hj
    show (((s2.unown (.t k)).boxes2 (.l j') n cs).put d _).get j = _
    rw [St.put_get]
    simp only [Eff.gt] at hj
    by_cases h : d = j
    · subst h; simpa using hj
    · have h' : ¬ j = d := fun e => h e.symm
      rw [if_neg h']
      have hj' : s2.get j = some e := by simpa [h] using hj
      exact hj'
  bx := fun m ds hm => by
    rw [ap_box] at hm
    show ((s2.unown (.t k)).boxes2 (.l j') n cs).box m = _
    rw [St.boxes2_box]
    simp only [Eff.gb] at hm
    split
    · rename_i he; rw [if_pos he] at hm; exact hm
    · rename_i he
      rw [if_neg he] at hm
      split
      · rename_i h2; rw [if_pos h2] at hm; exact hm
      · rename_i h2; rw [if_neg h2] at hm; exact hm
  ow := fun p s hp => by
    rw [ap_own] at hp
    unfold St.msApp
    rw [St.addOwn_own]
    simp only [Eff.go, List.mem_cons, List.not_mem_nil, or_false] at hp
    split
    · rename_i he; rw [if_pos he] at hp; exact hp
    · rename_i he
      rw [if_neg he] at hp
      rw [St.put_own]
      split
      · rename_i h2; rw [if_pos (.inl h2)] at hp; exact hp
      · rename_i h2
        show (s2.unown (.t k)).own p = _
        rw [St.unown_own]
        split
        · rename_i h3; rw [if_pos (.inr h3)] at hp; exact hp
        · rename_i h3; rw [if_neg (by rintro (h | h) <;> contradiction)] at hp; exact hp

/-- What the slice that is appended to stands for: in a box. -/
theorem ms_hy {k L sz : Nat} {n : Nm} {cs : List C} {st : St} (hb : st.box n = some cs) (hcl : cs.length = L * sz) : ∀ (E : Env) (G : Gh) (a : Act) (w : World) (v' : Value), Rel E G st a w → YRep w G (.ms n sz 0 L) v' → OwnAt E.B w G (.t k) sz v' →
    (v' = .slice none 0 0 ∧ L = 0 ∧ cs = []) ∨ ∃ blk cap, v' = .slice (some ⟨blk, 0, none⟩) L cap ∧ ∀ (j : Nat) (c : C), cs[j]? = some c → G.W blk j = .box n ∧ w.frozen? ⟨blk, j, none⟩ = false ∧ ∃ v, w.cell? ⟨blk, j, none⟩ = some v ∧ CRep w G.S c v := by
  intro E G a w v' hr hy ho
  rcases hy with ⟨rfl, rfl⟩ | ⟨cap, hcap, rfl⟩
  · exact .inl ⟨rfl, rfl, List.eq_nil_of_length_eq_zero (by rw [hcl, Nat.zero_mul])⟩
  rcases ho with ho | ⟨blk, len, cap2, e, hv, _⟩
  · simp at ho
  · simp only [Value.slice.injEq, Option.some.injEq, Addr.mk.injEq, Nat.add_zero] at hv
    obtain ⟨⟨h1, h2, _⟩, _⟩ := hv
    refine .inr ⟨(G.A n).1, cap, by simp [h2], fun j c hj => ?_⟩
    have := hr.bx n cs hb j c hj
    rw [h2, Nat.zero_add] at this
    exact this
/-- .. or it is empty yet. -/
theorem nil_hy {k sz : Nat} {n : Nm} {st : St} : ∀ (E : Env) (G : Gh) (a : Act) (w : World) (v' : Value), Rel E G st a w → YRep w G (.c (.sl sz [])) v' → OwnAt E.B w G (.t k) sz v' →
    (v' = .slice none 0 0 ∧ 0 = 0 ∧ ([] : List C) = []) ∨ ∃ blk cap, v' = .slice (some ⟨blk, 0, none⟩) 0 cap ∧ ∀ (j : Nat) (c : C), ([] : List C)[j]? = some c → G.W blk j = .box n ∧ w.frozen? ⟨blk, j, none⟩ = false ∧ ∃ v, w.cell? ⟨blk, j, none⟩ = some v ∧ CRep w G.S c v := by
  intro E G a w v' hr hy ho
  rcases ho with ho | ⟨blk, len, cap2, e, hv, _⟩
  · exact .inl ⟨ho, rfl, rfl⟩
  · subst hv
    have : len = 0 := by have := (CRep.elem hy).1; simpa using this.symm
    subst this
    exact .inr ⟨blk, cap2, rfl, fun j c hj => by simp at hj⟩

section
variable {s0 : St} {ops : Array Oper} {B : List Nat} {q : Nat} {rest : List Oper} {acc : List Lnk} {o : Oper} {Q : St → Prop} {d : Nat}
theorem dr_appendMs (j' : Nat) {k : Nat} {x : Operand} {t : TypeId} {sz e by' L m0 : Nat} {cs : List C} {xs : List (List C)} {ti : TyI} (hk : ops[q]? = some o) (ho : o.op = .call { callee := .builtin .append, args := #[.tmp k, x], argTypes := #[t, t] }) (hg : gateOf ops (rs (foot ops o [] [.t k]) st) o = some true) (hd : o.dst = some d)
    (hs0 : st.get k = some (true, .v (.ms (.l m0) sz 0 L))) (hs : (rs (foot ops o [.l m0] [.t k]) st).get k = some (true, .v (.ms (.l m0) sz 0 L))) (hw : (rs (foot ops o [.l m0] [.t k]) st).own (.t k) = some sz) (hb : (rs (foot ops o [.l m0] [.t k]) st).box (.l m0) = some cs) (hx : lk Z.T (rs (foot ops o [.l m0] [.t k]) st) t x = some (true, .v (.c (.sl sz xs))))
    (ht : tyAt Z.T t = some ti) (hel : ti.el = some (e, sz, by')) (hN : Nat.ble (d + 1) N = true) (hkd : Nat.beq k d = false) (hf1 : s0.freshO (.l j', true) = true) (hf2 : s0.freshO (.l m0, false) = true) (hcl : cs.length = L * sz) (hx1 : 1 ≤ xs.length) (hbig : (L + xs.length) * by' ≤ 140737488355328) (hmax : L + xs.length ≤ 9223372036854775807)
    (hr : Draw Z N s0 ops B (q + 1) rest (acc ++ [(q, { d := some (d, true, .v (.ms (.l j') sz 0 (L + xs.length))), b := some (.l j', cs ++ xs.flatten), b2 := some (.l m0, []), drop := [.t d, .t k], gain := some (.t d, sz) }, { foot ops o [.l m0] [.t k] with rn := [(.l j', true), (.l m0, false)] })])
      (ap { d := some (d, true, .v (.ms (.l j') sz 0 (L + xs.length))), b := some (.l j', cs ++ xs.flatten), b2 := some (.l m0, []), drop := [.t d, .t k], gain := some (.t d, sz) } st) Q) : Draw Z N s0 ops B q (o :: rest) acc st Q := by
  refine dr_cons hk (R := { foot ops o [.l m0] [.t k] with rn := [(.l j', true), (.l m0, false)] }) ?_ hr (by
    intro m hm
    simp only [List.mem_cons, List.not_mem_nil, or_false] at hm
    rcases hm with rfl | rfl
    · exact hf1
    · exact hf2)
  intro s2 hag hfr
  have hsub : Sub (rs (foot ops o [.l m0] [.t k]) st) s2 := hag.sub
  refine (op1_do (gateOf_sub (s := rs (foot ops o [] [.t k]) st) ⟨fun j e h => hsub.t j e h, fun m cs h => by simp [rs, foot, pickB, St.box, getB] at h, fun p s h => hsub.ow p s h, hsub.mp⟩ hg) (by
    rw [hd, ho]
    exact does_msApp (hsub.t _ _ hs) (hsub.ow _ _ hw) (lk_sub hsub hx) ht hel hN hkd ⟨_, rfl⟩ (hfr _ (by simp)) (hfr _ (by simp)) hcl hx1 hbig hmax (ms_hy (hsub.bx _ _ hb) hcl))).sub msApp_sub
theorem dr_appendMsNil (j' : Nat) {k : Nat} {x : Operand} {t : TypeId} {sz e by' : Nat} {xs : List (List C)} {ti : TyI} (hk : ops[q]? = some o) (ho : o.op = .call { callee := .builtin .append, args := #[.tmp k, x], argTypes := #[t, t] }) (hg : gateOf ops (rs (foot ops o [] [.t k]) st) o = some true) (hd : o.dst = some d)
    (hs : (rs (foot ops o [] [.t k]) st).get k = some (true, .v (.c (.sl sz [])))) (hw : (rs (foot ops o [] [.t k]) st).own (.t k) = some sz) (hx : lk Z.T (rs (foot ops o [] [.t k]) st) t x = some (true, .v (.c (.sl sz xs))))
    (ht : tyAt Z.T t = some ti) (hel : ti.el = some (e, sz, by')) (hN : Nat.ble (d + 1) N = true) (hkd : Nat.beq k d = false) (hf1 : s0.freshO (.l j', true) = true) (hx1 : 1 ≤ xs.length) (hbig : (0 + xs.length) * by' ≤ 140737488355328) (hmax : 0 + xs.length ≤ 9223372036854775807)
    (hr : Draw Z N s0 ops B (q + 1) rest (acc ++ [(q, { d := some (d, true, .v (.ms (.l j') sz 0 (0 + xs.length))), b := some (.l j', [] ++ xs.flatten), b2 := some (.l j', []), drop := [.t d, .t k], gain := some (.t d, sz) }, { foot ops o [] [.t k] with rn := [(.l j', true)] })])
      (ap { d := some (d, true, .v (.ms (.l j') sz 0 (0 + xs.length))), b := some (.l j', [] ++ xs.flatten), b2 := some (.l j', []), drop := [.t d, .t k], gain := some (.t d, sz) } st) Q) : Draw Z N s0 ops B q (o :: rest) acc st Q := by
  refine dr_cons hk (R := { foot ops o [] [.t k] with rn := [(.l j', true)] }) ?_ hr (by
    intro m hm
    simp only [List.mem_cons, List.not_mem_nil, or_false] at hm
    subst hm
    exact hf1)
  intro s2 hag hfr
  have hsub : Sub (rs (foot ops o [] [.t k]) st) s2 := hag.sub
  have hfr' := hfr (.l j', true) (by simp)
  refine (op1_do (gateOf_sub hsub hg) (by
    rw [hd, ho]
    exact does_msApp (n := .l j') (cs := []) (L := 0) (hsub.t _ _ hs) (hsub.ow _ _ hw) (lk_sub hsub hx) ht hel hN hkd ⟨_, rfl⟩ hfr' ⟨fun h => by simp at h, hfr'.2⟩ (by simp) hx1 hbig hmax nil_hy)).sub msApp_sub
end

/-- The length of such a slice. -/
theorem pure_lenMs {x : Operand} {t : TypeId} {g gate : Bool} {n : Nm} {sz off L : Nat} {ti : TyI} {el : Nat × Nat × Nat} (h : lk Z.T st ty x = some (g, .v (.ms n sz off L))) (hg : gate = true → g = true)
    (ht : tyAt Z.T t = some ti) (hel : ti.el = some el) : PureOk Z st (.call { callee := .builtin .len, args := #[x], argTypes := #[t] }) ty gate (.v (.c (.i .i64 (L : Int)))) := by
  intro o E G a w ho _ hr hgt
  obtain ⟨e, s, by'⟩ := el
  have hu := ((Z.tyOk ht).sl e s by' hel).1
  refine ⟨.int .i64 L, CRep.i _ _, ?_⟩
  rcases lk_rep hr h (hg hgt) with ⟨rfl, h2⟩ | ⟨cap, _, h2⟩
  · simp [execOp, ho, h2, Go.resolve, invoke, builtin, Builtin.len_, underlying, hu, goInt]
  · simp [execOp, ho, h2, Go.resolve, invoke, builtin, Builtin.len_, underlying, hu, goInt]
/-- The address of an element: in the box. -/
theorem pure_indexMs {x i : Operand} {t : TypeId} {g gi gate : Bool} {n : Nm} {sz off L : Nat} {k : IntKind} {m : Int} {j : Nat} {ti : TyI} {e by' : Nat} (h : lk Z.T st ty x = some (g, .v (.ms n sz off L))) (hi : lk Z.T st ty i = some (gi, .v (.c (.i k m))))
    (hg : gate = true → g = true) (hgi : gate = true → gi = true) (ht : tyAt Z.T t = some ti) (hel : ti.el = some (e, sz, by')) (hn : m = (j : Int)) (hj : gate = true → j < L) : PureOk Z st (.indexAddr t x i) ty gate (.v (.ptr n (off + j * sz))) := by
  intro o E G a w ho _ hr hgt
  have hj := hj hgt
  rcases lk_rep hr h (hg hgt) with ⟨rfl, h1⟩ | ⟨cap, _, h1⟩
  · omega
  have h2 := XRep.int (lk_rep hr hi (hgi hgt))
  subst hn
  obtain ⟨hu, jf, ze, hinfo, hsz, _, _, _, _⟩ := (Z.tyOk ht).sl e sz by' hel
  refine ⟨.pointer (some ⟨(G.A n).1, (G.A n).2 + (off + j * sz), none⟩), rfl, ?_⟩
  simp [execOp, ho, h1, h2, Instr.indexAt, asIntOf, underlying, hu, hj, sizeOf, typeInfo, hinfo, hsz, addr_add, Nat.add_assoc]
end
end Go.Abs
/- A box whose cells are written no more: the slice over it is a value. -/
set_option linter.unusedVariables false
set_option linter.unusedSimpArgs false
namespace Go.Abs
variable {Z : Pg}

/-- 'st' behind the freezing of the box 'l m', over which slot 'k' holds a slice of rows. -/
def St.frz (st : St) (k m sz : Nat) (es : List (List C)) : St := { st with t := (k, true, .v (.c (.sl sz es))) :: st.t, bx := (.l m, []) :: st.bx }
open Classical in
/-- The cells of a box are written no more. -/
noncomputable def Gh.frz (G : Gh) (n : Nm) : Gh := { G with W := fun b o => if G.W b o = .box n then .imm else G.W b o }

theorem flat_at {sz : Nat} : ∀ {xs : List (List C)} {i j : Nat} {row : List C} {c : C}, (∀ (i : Nat) (row : List C), xs[i]? = some row → row.length = sz) → xs[i]? = some row → row[j]? = some c → xs.flatten[i * sz + j]? = some c
  | [], i, j, row, c, _, h, _ => by simp at h
  | x :: xs, 0, j, row, c, hr, h, hc => by
    simp only [List.getElem?_cons_zero, Option.some.injEq] at h
    subst h
    have hj := (List.getElem?_eq_some_iff.1 hc).1
    rw [List.flatten_cons, Nat.zero_mul, Nat.zero_add, List.getElem?_append_left hj, hc]
  | x :: xs, i + 1, j, row, c, hr, h, hc => by
    have hx := hr 0 x rfl
    rw [List.flatten_cons, List.getElem?_append_right (by rw [hx, Nat.add_mul]; omega)]
    have := flat_at (xs := xs) (i := i) (fun i row hi => hr (i + 1) row (by simpa using hi)) (by simpa using h) hc
    rw [← this]
    congr 1
    rw [hx, Nat.add_mul]; omega

theorem Gh.frz_S {G : Gh} {n : Nm} {b o : Nat} (h : G.S b o) : (G.frz n).S b o := by
  unfold Gh.S Gh.frz at *
  dsimp only
  rw [if_neg (by rw [h]; simp)]
  exact h

theorem Rel.freeze {E : Env} {G : Gh} {st : St} {a : Act} {w : World} (h : Rel E G st a w) {k m sz L : Nat} {es : List (List C)} (hs : st.get k = some (true, .v (.ms (.l m) sz 0 L)))
    (hb : st.box (.l m) = some es.flatten) (hL : es.length = L) (hm : L ≤ 9223372036854775807) (hrow : ∀ (i : Nat) (row : List C), es[i]? = some row → row.length = sz) (hfo : FreshG st (.l m, false)) :
    Rel E (G.frz (.l m)) (st.frz k m sz es) a w := by
  have hmono : ∀ {y : C} {v : Value}, CRep w G.S y v → CRep w (G.frz (.l m)).S y v := fun hc => hc.mono (fun _ _ => Gh.frz_S) (fun _ _ _ => rfl)
  have hbox := h.bx _ _ hb
  have hne : ∀ {b o : Nat} {x : Who}, G.W b o = x → x ≠ .box (.l m) → (G.frz (.l m)).W b o = x := fun {b o x} e hx => by
    unfold Gh.frz; dsimp only; rw [if_neg (by rw [e]; exact hx)]; exact e
  constructor
  · exact h.df
  · intro j g x hj
    have hj2 : getT ((k, true, .v (.c (.sl sz es))) :: st.t) j = some (g, x) := hj
    rw [getT_cons] at hj2
    split at hj2
    · rename_i he; subst he
      simp only [Option.some.injEq, Prod.mk.injEq] at hj2
      obtain ⟨rfl, rfl⟩ := hj2
      obtain ⟨v, hv, hv1, _⟩ := h.tm _ _ _ hs
      refine ⟨v, hv, fun _ => ?_, fun hg => by simp at hg⟩
      rcases hv1 rfl with ⟨rfl, rfl⟩ | ⟨cap, hc, rfl⟩
      · rw [List.eq_nil_of_length_eq_zero hL]; exact CRep.nil sz
      refine CRep.mk_sl hL hc hm fun i row hi => ⟨hrow i row hi, fun j' c hj' => ?_⟩
      obtain ⟨q1, q2, v, q3, q4⟩ := hbox _ c (flat_at hrow hi hj')
      rw [Nat.add_zero, Nat.add_assoc]
      refine ⟨?_, v, q3, hmono q4⟩
      unfold Gh.S Gh.frz; dsimp only; rw [if_pos q1]
    · obtain ⟨u, hu, q1, q2⟩ := h.tm j g x hj2
      exact ⟨u, hu, fun hg => (q1 hg).mono (fun _ _ => Gh.frz_S) (fun _ _ _ => rfl) (fun _ _ => rfl), q2⟩
  · intro n ds hn j c hj
    have hn2 : getB ((.l m, []) :: st.bx) n = some ds := hn
    rw [getB_cons] at hn2
    split at hn2
    · simp only [Option.some.injEq] at hn2; subst hn2; simp at hj
    · rename_i hx
      obtain ⟨q1, q2, v, q3, q4⟩ := h.bx n ds hn2 j c hj
      exact ⟨hne q1 (by intro e; injection e with e; exact hx e.symm), q2, v, q3, hmono q4⟩
  · intro p s hp
    have hp2 : st.own p = some s := hp
    obtain ⟨u, hu, ho⟩ := h.ow p s hp2
    refine ⟨u, ?_, ?_⟩
    · cases p with
      | t k' => exact hu
      | b n off =>
        refine ⟨hu.1, hne hu.2 ?_⟩
        intro e; injection e with e
        have := hfo.2 _ _ hp2
        subst e; simp [Pl.inBox, Nm.beq_self] at this
    · rcases ho with ho | ⟨b2, len, cap, e, q1, q2, q3, q4⟩
      · exact .inl ho
      · exact .inr ⟨b2, len, cap, e, q1, q2, q3, fun o h1 h2 => ⟨hne (q4 o h1 h2).1 (by simp), (q4 o h1 h2).2⟩⟩
  · intro b o hw
    refine h.wf b o fun e => hw (hne e (by simp))
  · intro b o n hb' hn
    unfold Gh.frz at hn; dsimp only at hn
    split at hn
    · simp at hn
    · exact h.olB b o n hb' hn
  · intro b o p hb' hn
    unfold Gh.frz at hn; dsimp only at hn
    split at hn
    · simp at hn
    · exact h.olO b o p hb' hn
  · exact h.nt
  · exact h.oA
  · intro b o hi
    exact hne (h.im b o hi) (by simp)
  · intro b o hb' hi
    unfold Gh.frz at hi; dsimp only at hi
    split at hi
    · rename_i e
      obtain ⟨j, hj⟩ := (h.lo b o hb').1 _ e
      simp at hj
    · exact h.im' b o hb' hi
  · exact h.fr
  · exact h.hB
  · intro b o hb'
    unfold Gh.frz; dsimp only
    split
    · simp
    · exact h.lo b o hb'
  · intro t j ds hn hne2
    have hn2 : getB ((.l m, []) :: st.bx) (.bd t j) = some ds := hn
    rw [getB_cons, if_neg (by simp)] at hn2
    exact h.bd t j ds hn2 hne2
  · intro x hx
    obtain ⟨q1, q2, q3⟩ := h.mp x hx
    refine ⟨q1, q2, fun o => ?_⟩
    unfold Gh.frz; dsimp only
    split
    · exact ⟨fun n => by simp, fun q => by simp⟩
    · exact q3 o

theorem awp_freeze {N : Nat} {c : Code} {Q : Exit → St → Prop} {st : St} (k m : Nat) {sz L : Nat} (es : List (List C)) (hs : st.get k = some (true, .v (.ms (.l m) sz 0 L)))
    (hb : st.box (.l m) = some es.flatten) (hL : es.length = L) (hm : L ≤ 9223372036854775807) (hrow : ∀ (i : Nat) (row : List C), es[i]? = some row → row.length = sz) (hfo : st.freshO (.l m, false) = true)
    (h : AWP Z N c Q (st.frz k m sz es)) : AWP Z N c Q st :=
  fun E G a w hr hE => h E _ a w (hr.freeze hs hb hL hm hrow (St.freshO_ok hfo)) hE
theorem al_freeze {N : Nat} {ops : Array Oper} {rest : List Oper} {K : St → Prop} {st : St} (k m : Nat) {sz L : Nat} (es : List (List C)) (hs : st.get k = some (true, .v (.ms (.l m) sz 0 L)))
    (hb : st.box (.l m) = some es.flatten) (hL : es.length = L) (hm : L ≤ 9223372036854775807) (hrow : ∀ (i : Nat) (row : List C), es[i]? = some row → row.length = sz) (hfo : st.freshO (.l m, false) = true)
    (h : AL Z N ops rest K (st.frz k m sz es)) : AL Z N ops rest K st :=
  fun E G a w hr hE => h E _ a w (hr.freeze hs hb hL hm hrow (St.freshO_ok hfo)) hE

/-! ### An owned empty slice as a slice over a box, and another name for a box -/
def St.thw (st : St) (k m sz : Nat) : St := { st with t := (k, true, .v (.ms (.l m) sz 0 0)) :: st.t, bx := (.l m, []) :: st.bx }

theorem Rel.thaw {E : Env} {G : Gh} {st : St} {a : Act} {w : World} (h : Rel E G st a w) {k m sz : Nat} (hs : st.get k = some (true, .v (.c (.sl sz [])))) (hw : st.own (.t k) = some sz) (hfr : FreshG st (.l m, true)) :
    ∃ G', Rel E G' (st.thw k m sz) a w := by
  obtain ⟨v, hv, hv1, _⟩ := h.tm _ _ _ hs
  obtain ⟨v', hv', ho⟩ := h.ow _ _ hw
  have : v' = v := by have h1 : a.tmps[k]? = some v' := hv'; rw [hv] at h1; exact (Option.some.inj h1).symm
  subst this
  have hx : CRep w G.S (.sl sz []) v' := hv1 rfl
  obtain ⟨A, hA⟩ : ∃ A : Nat × Nat, v' = .slice none 0 0 ∨ ∃ cap, v' = .slice (some ⟨A.1, A.2 + 0, none⟩) 0 cap := by
    rcases ho with rfl | ⟨blk, len, cap, e, rfl, _⟩
    · exact ⟨(0, 0), .inl rfl⟩
    · have : len = 0 := by have := (CRep.elem hx).1; simpa using this.symm
      subst this
      exact ⟨(blk, 0), .inr ⟨cap, rfl⟩⟩
  refine ⟨{ W := G.W, A := fun n => if n = .l m then A else G.A n }, ?_⟩
  have hy : ∀ {y : X} {u : Value}, y.has (.l m) = false → XRep w G y u → XRep w { W := G.W, A := fun n => if n = .l m then A else G.A n } y u := fun {y u} hy hu =>
    XRep.mono (G := G) (G' := { W := G.W, A := fun n => if n = .l m then A else G.A n }) (fun _ _ e => e) (fun _ _ _ => rfl) (fun n hn => by
      have : ¬ n = .l m := fun e => by subst e; rw [hy] at hn; simp at hn
      dsimp only; rw [if_neg this]) hu
  constructor
  · exact h.df
  · intro j g x hj
    have hj2 : getT ((k, true, .v (.ms (.l m) sz 0 0)) :: st.t) j = some (g, x) := hj
    rw [getT_cons] at hj2
    split at hj2
    · rename_i he; subst he
      simp only [Option.some.injEq, Prod.mk.injEq] at hj2
      obtain ⟨rfl, rfl⟩ := hj2
      refine ⟨v', hv, fun _ => ?_, fun hg => by simp at hg⟩
      rcases hA with e | ⟨cap, e⟩
      · exact .inl ⟨rfl, e⟩
      · exact .inr ⟨cap, Nat.zero_le _, by dsimp only; rw [if_pos rfl]; exact e⟩
    · obtain ⟨u, hu, q1, q2⟩ := h.tm j g x hj2
      exact ⟨u, hu, fun hg => hy (hfr.1 rfl j g x hj2) (q1 hg), q2⟩
  · intro n ds hn j c hj
    have hn2 : getB ((.l m, []) :: st.bx) n = some ds := hn
    rw [getB_cons] at hn2
    split at hn2
    · simp only [Option.some.injEq] at hn2; subst hn2; simp at hj
    · rename_i hx2
      have : ¬ n = .l m := fun e => hx2 e.symm
      dsimp only; rw [if_neg this]
      exact h.bx n ds hn2 j c hj
  · intro p s hp
    have hp2 : st.own p = some s := hp
    obtain ⟨u, hu, ho⟩ := h.ow p s hp2
    refine ⟨u, ?_, ho⟩
    cases p with
    | t k' => exact hu
    | b n off =>
      have : ¬ n = .l m := fun e => by
        have := hfr.2 _ _ hp2
        subst e; simp [Pl.inBox, Nm.beq_self] at this
      show w.cell? _ = _ ∧ G.W _ _ = _
      dsimp only; rw [if_neg this]
      exact hu
  · exact h.wf
  · exact h.olB
  · exact h.olO
  · exact h.nt
  · intro j
    dsimp only
    rw [if_neg (by simp)]
    exact h.oA j
  · exact h.im
  · exact h.im'
  · exact h.fr
  · exact h.hB
  · exact h.lo
  · intro t j ds hn hne2
    have hn2 : getB ((.l m, []) :: st.bx) (.bd t j) = some ds := hn
    rw [getB_cons, if_neg (by simp)] at hn2
    dsimp only
    rw [if_neg (by simp)]
    exact h.bd t j ds hn2 hne2
  · exact h.mp

theorem awp_thaw {N : Nat} {c : Code} {Q : Exit → St → Prop} {st : St} (k m : Nat) {sz : Nat} (hs : st.get k = some (true, .v (.c (.sl sz [])))) (hw : st.own (.t k) = some sz) (hfr : st.freshO (.l m, true) = true)
    (h : AWP Z N c Q (st.thw k m sz)) : AWP Z N c Q st := fun E G a w hr hE => by
  obtain ⟨G', h'⟩ := hr.thaw hs hw (St.freshO_ok hfr)
  exact h E G' a w h' hE

def St.ren (st : St) (k m m' sz L : Nat) (cs : List C) : St :=
  { t := (k, true, .v (.ms (.l m') sz 0 L)) :: st.t.filter (fun q => !Nat.beq q.1 k), bx := (.l m', cs) :: st.bx.filter (fun q => !Nm.beq q.1 (.l m)), ow := st.ow, mp := st.mp }

theorem getT_filterNe (k : Nat) : ∀ (l : List (Nat × Bool × X)) (j : Nat), getT (l.filter fun q => !Nat.beq q.1 k) j = if j = k then none else getT l j
  | [], j => by simp [getT]
  | (i, e) :: r, j => by
    by_cases hi : i = k
    · subst hi
      have hb : Nat.beq i i = true := Nat.beq_refl i
      rw [List.filter_cons, if_neg (by simp [hb]), getT_filterNe i r j, getT_cons]
      by_cases hj : j = i
      · subst hj; simp
      · have : ¬ i = j := fun e => hj e.symm
        simp [hj, this]
    · rw [List.filter_cons, if_pos (by simp [nat_beq_ne hi]), getT_cons, getT_cons, getT_filterNe k r j]
      by_cases hj : i = j
      · subst hj; simp [hi]
      · simp [hj]
open Classical in
theorem Rel.rename {E : Env} {G : Gh} {st : St} {a : Act} {w : World} (h : Rel E G st a w) {k m m' sz L : Nat} {cs : List C} (hs : st.get k = some (true, .v (.ms (.l m) sz 0 L))) (hb : st.box (.l m) = some cs)
    (hfr : FreshG st (.l m', true)) (hfo : FreshG st (.l m, false)) :
    Rel E { W := fun b o => if G.W b o = .box (.l m) then .box (.l m') else G.W b o, A := fun n => if n = .l m' then G.A (.l m) else G.A n } (st.ren k m m' sz L cs) a w := by
  have hS : ∀ b o, G.S b o → Gh.S { W := fun b o => if G.W b o = .box (.l m) then .box (.l m') else G.W b o, A := fun n => if n = .l m' then G.A (.l m) else G.A n } b o := fun b o hs => by
    unfold Gh.S at *
    dsimp only
    rw [if_neg (by rw [hs]; simp)]
    exact hs
  constructor
  · exact h.df
  · intro j g x hj
    have hj2 : getT ((k, true, .v (.ms (.l m') sz 0 L)) :: st.t.filter (fun q => !Nat.beq q.1 k)) j = some (g, x) := hj
    rw [getT_cons] at hj2
    split at hj2
    · rename_i he; subst he
      simp only [Option.some.injEq, Prod.mk.injEq] at hj2
      obtain ⟨rfl, rfl⟩ := hj2
      obtain ⟨u, hu, q1, q2⟩ := h.tm _ _ _ hs
      refine ⟨u, hu, fun _ => ?_, fun hg => by simp at hg⟩
      rcases q1 rfl with e | ⟨cap, hc, e⟩
      · exact .inl e
      · exact .inr ⟨cap, hc, by dsimp only; rw [if_pos rfl]; exact e⟩
    · rw [getT_filterNe] at hj2
      split at hj2
      · simp at hj2
      · obtain ⟨u, hu, q1, q2⟩ := h.tm j g x hj2
        refine ⟨u, hu, fun hg => (q1 hg).mono hS (fun _ _ _ => rfl) fun n hn => ?_, q2⟩
        have : ¬ n = .l m' := fun e => by subst e; have := hfr.1 rfl j g x hj2; rw [hn] at this; simp at this
        dsimp only; rw [if_neg this]
  · intro n ds hn j c hj
    have hn2 : getB ((.l m', cs) :: st.bx.filter (fun q => !Nm.beq q.1 (.l m))) n = some ds := hn
    rw [getB_cons] at hn2
    split at hn2
    · rename_i he; subst he
      simp only [Option.some.injEq] at hn2; subst hn2
      obtain ⟨q1, q2, u, q3, q4⟩ := h.bx _ _ hb j c hj
      dsimp only
      rw [if_pos rfl, if_pos q1]
      exact ⟨rfl, q2, u, q3, q4.mono hS (fun _ _ _ => rfl)⟩
    · rename_i hne
      rw [getB_filter (fun q => !Nm.beq q (.l m))] at hn2
      split at hn2
      · rename_i hf2
        have hne2 : ¬ n = .l m := fun e => by subst e; simp [Nm.beq_self] at hf2
        obtain ⟨q1, q2, u, q3, q4⟩ := h.bx n ds hn2 j c hj
        have hn3 : ¬ n = .l m' := fun e => hne e.symm
        dsimp only
        rw [if_neg hn3, if_neg (by rw [q1]; intro e; injection e with e; exact hne2 e)]
        exact ⟨q1, q2, u, q3, q4.mono hS (fun _ _ _ => rfl)⟩
      · simp at hn2
  · intro p s hp
    have hp2 : st.own p = some s := hp
    obtain ⟨u, hu, ho⟩ := h.ow p s hp2
    refine ⟨u, ?_, ?_⟩
    · cases p with
      | t k' => exact hu
      | b n off =>
        have h1 : ¬ n = .l m' := fun e => by have := hfr.2 _ _ hp2; subst e; simp [Pl.inBox, Nm.beq_self] at this
        have h2 : ¬ n = .l m := fun e => by have := hfo.2 _ _ hp2; subst e; simp [Pl.inBox, Nm.beq_self] at this
        refine ⟨?_, ?_⟩
        · dsimp only; rw [if_neg h1]; exact hu.1
        · dsimp only; rw [if_neg h1, if_neg (by rw [hu.2]; intro e; injection e with e; exact h2 e)]; exact hu.2
    · rcases ho with ho | ⟨b2, len, cap, e, q1, q2, q3, q4⟩
      · exact .inl ho
      · exact .inr ⟨b2, len, cap, e, q1, q2, q3, fun o h1 h2 => ⟨by dsimp only; rw [if_neg (by rw [(q4 o h1 h2).1]; simp)]; exact (q4 o h1 h2).1, (q4 o h1 h2).2⟩⟩
  · intro b o hw
    refine h.wf b o fun e => hw ?_
    dsimp only; rw [if_neg (by rw [e]; simp)]; exact e
  · intro b o n hb' hn
    dsimp only at hn
    split at hn
    · rename_i e; exact h.olB b o _ hb' e
    · exact h.olB b o n hb' hn
  · intro b o p hb' hn
    dsimp only at hn
    split at hn
    · simp at hn
    · exact h.olO b o p hb' hn
  · exact h.nt
  · intro j
    dsimp only
    rw [if_neg (by simp)]
    exact h.oA j
  · intro b o hi
    exact hS b o (h.im b o hi)
  · intro b o hb' hi
    dsimp only at hi
    split at hi
    · simp at hi
    · exact h.im' b o hb' hi
  · exact h.fr
  · exact h.hB
  · intro b o hb'
    dsimp only
    split
    · rename_i e
      obtain ⟨j, hj⟩ := (h.lo b o hb').1 _ e
      simp at hj
    · exact h.lo b o hb'
  · intro t j ds hn hne2
    have hn2 : getB ((.l m', cs) :: st.bx.filter (fun q => !Nm.beq q.1 (.l m))) (.bd t j) = some ds := hn
    rw [getB_cons, if_neg (by simp), getB_filter (fun q => !Nm.beq q (.l m))] at hn2
    split at hn2
    · dsimp only
      rw [if_neg (by simp)]
      exact h.bd t j ds hn2 hne2
    · simp at hn2
  · intro x hx
    obtain ⟨q1, q2, q3⟩ := h.mp x hx
    refine ⟨q1, q2, fun o => ?_⟩
    dsimp only
    rw [if_neg ((q3 o).1 _)]
    exact q3 o

theorem awp_rename {N : Nat} {c : Code} {Q : Exit → St → Prop} {st : St} (k m m' : Nat) {sz L : Nat} {cs : List C} (hs : st.get k = some (true, .v (.ms (.l m) sz 0 L))) (hb : st.box (.l m) = some cs)
    (hfr : st.freshO (.l m', true) = true) (hfo : st.freshO (.l m, false) = true) (h : AWP Z N c Q (st.ren k m m' sz L cs)) : AWP Z N c Q st :=
  fun E G a w hr hE => h E _ a w (hr.rename hs hb (St.freshO_ok hfr) (St.freshO_ok hfo)) hE

/-! ### Rows in a box -/
theorem flat_row {sz : Nat} : ∀ {xs : List (List C)} {i : Nat} {row : List C}, (∀ (i : Nat) (row : List C), xs[i]? = some row → row.length = sz) → xs[i]? = some row → (xs.flatten.drop (i * sz)).take sz = row
  | [], i, row, _, h => by simp at h
  | x :: xs, 0, row, hr, h => by
    simp only [List.getElem?_cons_zero, Option.some.injEq] at h
    subst h
    rw [Nat.zero_mul, List.drop_zero, List.flatten_cons, ← hr 0 x rfl, List.take_left]
  | x :: xs, i + 1, row, hr, h => by
    have hx := hr 0 x rfl
    rw [List.flatten_cons, List.drop_append, List.drop_eq_nil_of_le (by rw [hx, Nat.add_mul]; omega), List.nil_append, hx, Nat.add_mul, Nat.one_mul, Nat.add_sub_cancel]
    exact flat_row (fun i row hi => hr (i + 1) row (by simpa using hi)) (by simpa using h)
theorem setAt_mid : ∀ (ds p m s : List C), m.length = ds.length → setAt (p ++ (m ++ s)) p.length ds = p ++ (ds ++ s)
  | [], p, m, s, h => by rw [List.eq_nil_of_length_eq_zero h]; rfl
  | d :: ds, p, [], s, h => by simp at h
  | d :: ds, p, x :: m, s, h => by
    have h' : m.length = ds.length := by simpa using h
    rw [setAt, List.cons_append, List.set_append_right _ _ (Nat.le_refl _), Nat.sub_self, List.set_cons_zero]
    have := setAt_mid ds (p ++ [d]) m s h'
    rw [List.append_assoc, List.length_append] at this
    simpa using this
theorem setAt_flat {sz : Nat} : ∀ {xs : List (List C)} {i : Nat} {ds : List C}, (∀ (i : Nat) (row : List C), xs[i]? = some row → row.length = sz) → i < xs.length → ds.length = sz → setAt xs.flatten (i * sz) ds = (xs.set i ds).flatten := by
  intro xs i ds hr hi hd
  have hx := List.getElem?_eq_getElem hi
  have hl := hr i _ hx
  have e1 : xs = xs.take i ++ xs[i] :: xs.drop (i + 1) := by rw [← List.drop_eq_getElem_cons hi, List.take_append_drop]
  have hti : (xs.take i).flatten.length = i * sz := by
    rw [flat_len (sz := sz) (fun j row hj => by
      rw [List.getElem?_take] at hj
      split at hj
      · exact hr j row hj
      · simp at hj), List.length_take, Nat.min_eq_left (by omega)]
  have e2 : xs.flatten = (xs.take i).flatten ++ (xs[i] ++ (xs.drop (i + 1)).flatten) := by
    conv => lhs; rw [e1]
    rw [List.flatten_append, List.flatten_cons]
  rw [e2, ← hti, setAt_mid _ _ _ _ (by rw [hl, hd]), List.set_eq_take_append_cons_drop, if_pos hi, List.flatten_append, List.flatten_cons]
end Go.Abs
/- append of whatever is appended, at any place; a Builder's methods. -/
set_option linter.unusedVariables false
set_option linter.unusedSimpArgs false
namespace Go.Abs
variable {Z : Pg}

/-- append to what 'p' owns: a new value, in a world in which nothing else has turned. -/
theorem app_core {E : Env} {G : Gh} {st : St} {a : Act} {w : World} (hr : Rel E G st a w) {p : Pl} {sz e by' : Nat} {es xs : List (List C)} {v' xv : Value} {t tx ty : TypeId} {jf : TypeInfo} {ze : Value} {news : List Value}
    (hu : Z.P.underlying t = some (.slice e)) (hinfo : Z.P.info? e = some jf) (hsz : jf.size = sz) (hby : jf.bytes = by') (hsz0 : sz ≠ 0) (hze : jf.zero = some ze) (hzec : ze.cells.size = sz)
    (hcr : CRep w G.S (.sl sz es) v') (hown : OwnAt E.B w G p sz v') (hsrc : Src Z.P sz tx xv xs.length news w) (hxrow : ∀ (i : Nat) (row : List C), xs[i]? = some row → row.length = sz)
    (hnrep : ∀ (i j : Nat) (row : List C) (c : C), xs[i]? = some row → row[j]? = some c → ∃ v, news[i * sz + j]? = some v ∧ CRep w G.S c v)
    (hbig : (es.length + xs.length) * by' ≤ 140737488355328) (hmax : es.length + xs.length ≤ 9223372036854775807) (hpe : ∀ t k o, p = .b (.bd t k) o → e = t % 4096) :
    ∃ G1 w1 uo un uc, (Builtin.append_ #[t, tx] ty #[v', xv]).run Z.P w = .ok (.slice uo un uc) w1 ∧ Rel E G1 (st.unown p) a w1 ∧ CRep w1 G1.S (.sl sz (es ++ xs)) (.slice uo un uc) ∧ OwnAt E.B w1 G1 p sz (.slice uo un uc) ∧ G1.A = G.A ∧
      (∀ b o, b < w.heap.size → G.W b o ≠ .own p → w1.cell? ⟨b, o, none⟩ = w.cell? ⟨b, o, none⟩) := by
  have hpos : 0 < sz := by omega
  have hunown : Rel E G (st.unown p) a w := hr.sub (st.unown_sub _)
  have hexl : (es ++ xs).length = es.length + xs.length := List.length_append
  have hnl := hsrc.newsLen
  have hcase : (v' = .slice none 0 0 ∧ es = []) ∨ ∃ blk len cap, v' = .slice (some ⟨blk, 0, none⟩) len cap ∧ es.length = len := by
    rcases hown with hn | ⟨blk2, len2, cap2, e2, hv2, _⟩
    · subst hn
      refine .inl ⟨rfl, ?_⟩
      rcases CRep.sl_cases hcr with ⟨_, _, h⟩ | ⟨_, _, _, _, h, _⟩
      · exact h
      · simp at h
    · refine .inr ⟨blk2, len2, cap2, hv2, ?_⟩
      rw [hv2] at hcr
      exact hcr.elem.1
  have grow : ∀ (base : Option Addr) (cap : Nat) (olds : List Value), v' = .slice base es.length cap → olds.length = es.length * sz → (Builtin.firstCells jf.size es.length (.slice base es.length cap)).run Z.P w.drew = .ok olds.toArray w.drew → cap < es.length + xs.length →
      (∀ (i j : Nat) (row : List C) (c : C), es[i]? = some row → row[j]? = some c → ∃ v, olds[i * sz + j]? = some v ∧ CRep w G.S c v) → (∀ (i : Nat) (row : List C), es[i]? = some row → row.length = sz) →
      ∃ G1 w1 uo un uc, (Builtin.append_ #[t, tx] ty #[v', xv]).run Z.P w = .ok (.slice uo un uc) w1 ∧ Rel E G1 (st.unown p) a w1 ∧ CRep w1 G1.S (.sl sz (es ++ xs)) (.slice uo un uc) ∧ OwnAt E.B w1 G1 p sz (.slice uo un uc) ∧ G1.A = G.A ∧
      (∀ b o, b < w.heap.size → G.W b o ≠ .own p → w1.cell? ⟨b, o, none⟩ = w.cell? ⟨b, o, none⟩) := by
    intro base cap olds hv hol hold hg horep herow
    subst hv
    have hrun := run_append_grow_src (P := Z.P) w t tx ty e jf ze hu hinfo hze base es.length cap olds hold xv xs.length news (by rw [hsz]; exact hsrc) hg (by omega) (growslice_fits (by omega) (by rw [hby]; exact hbig))
    have hge := grownCap_ge w (es.length + xs.length) cap e
    have harr : (olds ++ news).toArray = olds.toArray ++ news.toArray := by simp
    rw [harr] at hrun
    obtain ⟨G1, q0, q1, q2, q3⟩ := hr.newRow p (e := e) hpe (sz := sz) (len := es.length + xs.length) (cap := grownCap w (es.length + xs.length) cap e) (es := es ++ xs) (cells := olds.toArray ++ news.toArray ++ Builtin.zeroCells ze.cells (grownCap w (es.length + xs.length) cap e - (es.length + xs.length))) hge
      hmax (by simp only [Array.size_append, List.size_toArray, size_zeroCells, hzec, hnl, hol, ← Nat.add_mul]; congr 1; omega) hexl (fun i row hi => by
        rw [List.getElem?_append] at hi
        split at hi
        · exact herow _ row hi
        · exact hxrow _ row hi) (rows_append hol horep hnrep _)
    refine ⟨G1, _, _, _, _, hrun, q1, q2, q3, q0, fun b o hb _ => ?_⟩
    exact World.cell?_alloc_lt w.drew _ _ hb
  rcases hcase with ⟨hvn, rfl⟩ | ⟨blk, len, cap, hvs, hlen⟩
  · by_cases hm : xs.length = 0
    · have hx0 : xs = [] := List.eq_nil_of_length_eq_zero hm
      subst hx0
      subst hvn
      refine ⟨G, w, none, 0, 0, ?_, hunown, CRep.nil sz, .inl rfl, rfl, fun _ _ _ _ => rfl⟩
      have hn0 : news = [] := List.eq_nil_of_length_eq_zero (by rw [hnl]; simp)
      subst hn0
      have hc := hsrc.cells
      have hl := hsrc.len w
      simp only [List.length_nil] at hc hl
      rcases hsrc.kind with ⟨e', hk⟩ | hk <;> simp [Builtin.append_, run_underlying hu, run_underlying hk, sizeOf, typeInfo, hinfo, hl, hsz, hc]
    · exact grow none 0 [] hvn (by simp) (by rw [hsz]; simp [Builtin.firstCells]) (by simp; omega) (fun i j row c hi _ => by simp at hi) (fun i row hi => by simp at hi)
  · subst hlen
    have hcr2 := hcr
    rw [hvs] at hcr2
    obtain ⟨olds, hol, hocell, _, horep⟩ := slice_vals hcr2
    have herow : ∀ (i : Nat) (row : List C), es[i]? = some row → row.length = sz := fun i row hi => (hcr2.elem.2.2.2 i row hi).1
    by_cases hroom : es.length + xs.length ≤ cap
    · rcases hown with ha0 | ⟨blk2, len2, cap2, e2, hv2, hlc2, ⟨hshape, hfr0⟩, hspare⟩
      · rw [ha0] at hvs; simp at hvs
      · subst hvs
        simp only [Value.slice.injEq, Option.some.injEq, Addr.mk.injEq] at hv2
        obtain ⟨⟨rfl, _⟩, rfl, rfl⟩ := hv2
        have hfit : (es.length + xs.length) * sz ≤ cap * sz := Nat.mul_le_mul_right _ hroom
        rw [Nat.add_mul] at hfit
        have hsome : ∀ j, j < news.length → (w.cell? ⟨blk, es.length * sz + j, none⟩).isSome = true := by
          intro j hj
          unfold World.shape? at hshape
          unfold World.cell?
          split at hshape
          · rename_i c e3 fz hheap
            simp only [Option.some.injEq, Prod.mk.injEq] at hshape
            obtain ⟨_, hcs⟩ := hshape
            simp only [hheap]
            simp
            omega
          · simp at hshape
        obtain ⟨f1, f2, f3, f4, f5, f6, f7, f8, f9⟩ := setCells_facts blk news (es.length * sz) w hsome
        have hrun := run_append_room_src (P := Z.P) w t tx ty e jf hu hinfo blk 0 es.length cap xv xs.length news (by rw [hsz]; exact hsrc) hroom (by rw [hsz, Nat.zero_add]; exact hsome) (fun j hj => by
          rw [hsz, Nat.zero_add]
          exact (hspare (es.length * sz + j) (by omega) (by omega)).2)
        rw [hsz, Nat.zero_add] at hrun
        let F : Nat → Nat → Prop := fun b o => b = blk ∧ es.length * sz ≤ o ∧ o < es.length * sz + news.length
        have hF : ∀ b o, F b o → G.W b o = .own p := by
          rintro b o ⟨rfl, h1, h2⟩
          exact (hspare o h1 (by omega)).1
        have hrel := hr.write (F := F) (w1 := w.setCells blk (es.length * sz) news) hF f1 f2 f3 f4 (fun b hb => by
            by_cases hbb : b = blk
            · subst hbb
              by_cases hz : news.length = 0
              · have hn0 : news = [] := List.eq_nil_of_length_eq_zero hz
                rw [hn0]; rfl
              · exact absurd ⟨rfl, Nat.le_refl _, by omega⟩ (hb (es.length * sz))
            · exact f5 b hbb) (fun b o hb => f6 b o hb) f8 f9
        have hnF : ∀ b o, G.S b o → ¬ F b o := fun b o hs hf => by
          unfold Gh.S at hs; rw [hF b o hf] at hs; simp at hs
        have hS : ∀ b o, G.S b o → Gh.S { G with W := fun b o => if F b o then .imm else G.W b o } b o := fun b o hs => by
          have := hnF b o hs
          unfold Gh.S at *
          dsimp only
          rw [if_neg this]; exact hs
        have hc : ∀ b o, G.S b o → (w.setCells blk (es.length * sz) news).cell? ⟨b, o, none⟩ = w.cell? ⟨b, o, none⟩ := fun b o hs => f6 b o (hnF b o hs)
        refine ⟨_, _, _, _, _, hrun, hrel, CRep.mk_sl hexl hroom hmax fun i row hi => ?_, .inr ⟨blk, es.length + xs.length, cap, e2, rfl, ⟨hroom, hlc2.2⟩, ⟨by rw [f9]; exact hshape, by rw [f8]; exact front_mono hfr0 (by rw [Nat.add_mul]; omega)⟩, fun o' h1 h2 => ?_⟩, rfl, fun b o hb hw => f6 b o fun hf => hw (hF b o hf)⟩
        · rw [List.getElem?_append] at hi
          split at hi
          · obtain ⟨q1, q2⟩ := hcr2.elem.2.2.2 _ row hi
            exact ⟨q1, q2.mono hS hc⟩
          · rename_i hge
            refine ⟨hxrow _ row hi, fun j c hj => ?_⟩
            obtain ⟨v, hv, hrep⟩ := hnrep _ j row c hi hj
            have hlt := (List.getElem?_eq_some_iff.1 hv).1
            have hidx : 0 + i * sz + j = es.length * sz + ((i - es.length) * sz + j) := by
              rw [Nat.sub_mul]
              have : es.length * sz ≤ i * sz := Nat.mul_le_mul_right sz (by omega)
              omega
            rw [hidx]
            refine ⟨?_, v, f7 _ v hv, hrep.mono hS hc⟩
            unfold Gh.S
            dsimp only
            rw [if_pos ⟨rfl, by omega, by omega⟩]
        · rw [Nat.add_mul] at h1
          obtain ⟨q5, q6⟩ := hspare o' (by omega) h2
          refine ⟨?_, by rw [frozen_of (f8 _)]; exact q6⟩
          dsimp only
          rw [if_neg (by rintro ⟨_, _, h3⟩; omega)]
          exact q5
    · exact grow (some ⟨blk, 0, none⟩) cap olds hvs hol (by rw [hsz]; exact run_firstCells_some (P := Z.P) w.drew sz es.length ⟨blk, 0, none⟩ es.length cap olds hol hocell) (by omega) horep herow

/-- The bytes of a string, as rows of one cell. -/
def bytesR (l : List UInt8) : List (List C) := l.map fun b => [.i .u8 (b.toNat : Int)]
theorem bytesR_len (l : List UInt8) : (bytesR l).length = l.length := by simp [bytesR]
theorem bytesR_app (l m : List UInt8) : bytesR (l ++ m) = bytesR l ++ bytesR m := by simp [bytesR]
theorem bytesR_get {l : List UInt8} {i : Nat} {row : List C} (h : (bytesR l)[i]? = some row) : ∃ b, l[i]? = some b ∧ row = [.i .u8 (b.toNat : Int)] := by
  unfold bytesR at h
  rw [List.getElem?_map, Option.map_eq_some_iff] at h
  obtain ⟨b, h1, h2⟩ := h
  exact ⟨b, h1, h2.symm⟩
end Go.Abs
/- A strings.Builder: a box of its own; its methods as single steps. -/
set_option linter.unusedVariables false
set_option linter.unusedSimpArgs false
namespace Go.Abs
variable {Z : Pg}

/-- What copyCheck leaves: the builder's own address in its first cell. -/
def Checked1 (b : Nat) (w w0 : World) : Prop :=
  (w.cell? ⟨b, 0, none⟩ = some (.pointer none) ∧ w0 = w.setCell ⟨b, 0, none⟩ (.pointer (some ⟨b, 0, none⟩))) ∨ (w.cell? ⟨b, 0, none⟩ = some (.pointer (some ⟨b, 0, none⟩)) ∧ w0 = w)

/-- What of the program the steps lean on. -/
structure BdSys (Z : Pg) where
  tB : TypeId
  tS : TypeId
  tStr : TypeId
  tU : TypeId
  tPU : TypeId
  tI : TypeId
  tN : Nat
  hN1 : tN / 4096 = tB
  hN2 : tN % 4096 = tU
  fW : FuncId
  fB : FuncId
  hasB : Bool
  fS : FuncId
  jf : TypeInfo
  hu : Z.P.underlying tS = some (.slice tU)
  hstr : Z.P.underlying tStr = some .string
  hpu : Z.P.underlying tPU = some (.pointer tU)
  hinfo : Z.P.info? tU = some jf
  hsz : jf.size = 1
  hby : jf.bytes = 1
  hze : jf.zero = some (.int .u8 0)
  hcells : Z.P.cellsOf tU = 1
  enW : Enters Z fW
  enB : hasB = true → Enters Z fB
  enS : Enters Z fS
  ws : ∀ (b : Nat) (w w0 w1 : World) (v' : Value) (uo : Option Addr) (un uc : Nat) (s : ByteArray), Checked1 b w w0 → w.shape? b = some (tB, 2) → w.frozen? ⟨b, 0, none⟩ = false →
    w0.cell? ⟨b, 1, none⟩ = some v' → (Builtin.append_ #[tS, tStr] tS #[v', .string s]).run Z.P w0 = .ok (.slice uo un uc) w1 → w1.cell? ⟨b, 1, none⟩ = some v' → w1.frozen? ⟨b, 1, none⟩ = false →
    Calls Z.P fW #[.pointer (some ⟨b, 0, none⟩), .string s] w fun e w' => e = .returned (.tuple #[.int .i64 s.size, .nilIface]) ∧ w' = w1.setCell ⟨b, 1, none⟩ (.slice uo un uc)
  wb : hasB = true → ∀ (b : Nat) (w w0 w1 : World) (v' : Value) (uo : Option Addr) (un uc : Nat) (c : Int), Checked1 b w w0 → w.shape? b = some (tB, 2) → w.frozen? ⟨b, 0, none⟩ = false →
    w0.cell? ⟨b, 1, none⟩ = some v' → (Builtin.append_ #[tS, tS] tS #[v', .slice (some ⟨w0.heap.size, 0, none⟩) 1 1]).run Z.P (w0.alloc (.cells #[.int .u8 c] tU)) = .ok (.slice uo un uc) w1 → w1.cell? ⟨b, 1, none⟩ = some v' → w1.frozen? ⟨b, 1, none⟩ = false →
    Calls Z.P fB #[.pointer (some ⟨b, 0, none⟩), .int .u8 c] w fun e w' => e = .returned .nilIface ∧ w' = w1.setCell ⟨b, 1, none⟩ (.slice uo un uc)
  st : ∀ (b : Nat) (w w1 w2 : World) (ao : Option Addr) (n cap : Nat) (p : Value) (s : ByteArray), w.cell? ⟨b, 1, none⟩ = some (.slice ao n cap) →
    (Builtin.unsafeSliceData_ #[tS] tPU #[.slice ao n cap]).run Z.P w.drew = .ok p w1 → w1.cell? ⟨b, 1, none⟩ = some (.slice ao n cap) →
    (Builtin.unsafeString_ #[tPU, tI] tStr #[p, .int .i64 n]).run Z.P w1 = .ok (.string s) w2 →
    Calls Z.P fS #[.pointer (some ⟨b, 0, none⟩)] w fun e w' => e = .returned (.string s) ∧ w' = w2

/-- A new Builder. -/
def St.newBd (st : St) (t d : Nat) : St := ((st.addBox (.bd t d) [.bl, .sl 1 (bytesR [])]).addOwn (.b (.bd t d) 1) 1).put d (true, .v (.ptr (.bd t d) 0))
theorem does_allocBd {N : Nat} {st : St} {ty d t u : Nat} {ti : TyI} (hu : u / 4096 = t) (ht : tyAt Z.T t = some ti) (hz : ti.z = [.o (.pointer none), .sl 1 []]) (hN : Nat.ble (d + 1) N = true) (hfr : st.fresh (.bd u d) = true) :
    Does Z N st (some d) (.alloc t) ty (st.newBd u d) := by
  intro o E G a w hd ho _ hr hE K Q hK
  have hdN : d < E.nt := by rw [hE.nt]; exact Nat.le_of_ble_eq_true hN
  obtain ⟨i, dd, zv, hi, _, _, _, hzv, _, hall⟩ := (Z.tyOk ht).info
  rw [hz] at hall
  have hcs : zv.cells = #[.pointer none, .slice none 0 0] := by
    cases hl : zv.cells.toList with
    | nil => rw [hl] at hall; exact hall.elim
    | cons x r =>
      rw [hl] at hall
      cases r with
      | nil => exact hall.2.elim
      | cons y r2 =>
        cases r2 with
        | cons _ _ => exact hall.2.2.elim
        | nil =>
          have h1 : CRep w G.S (.o (.pointer none)) x := CRep.ofConst hall.1
          have h2 : CRep w G.S (.sl 1 []) y := CRep.ofConst hall.2.1
          have hx : x = .pointer none := by
            have : constV (.o (.pointer none)) x = true := hall.1
            unfold constV at this
            split at this <;> simp_all
          have hy : y = .slice none 0 0 := by
            have : constV (.sl 1 []) y = true := hall.2.1
            unfold constV at this
            split at this <;> simp_all
          rw [← Array.toArray_toList (xs := zv.cells), hl, hx, hy]
  have hnew : ∀ j, (w.alloc (.cells zv.cells t)).cell? ⟨w.heap.size, j, none⟩ = zv.cells[j]? := fun j => World.cell?_alloc_new w _ _ _
  let n : Nm := .bd u d
  let G1 := (G.push w.heap.size fun o => if o < 2 then .box n else .none).name n (w.heap.size, 0)
  have hgrow : Rel E G1 (st.drop n) a (w.alloc (.cells zv.cells t)) := by
    refine (hr.sub (St.drop_sub st n)).grow (fr_alloc w _) ?_ ?_ ?_
    · intro b o hb
      have : ¬ b = w.heap.size := by omega
      simp [G1, Gh.name, Gh.push, this]
    · have hne : ∀ k g x, (st.drop n).get k = some (g, x) → x.has n = false := fun k g x hk => St.fresh_has hfr hk
      constructor
      · intro k g x hk m hm
        have : ¬ m = n := fun e => by subst e; rw [hne k g x hk] at hm; simp at hm
        simp [G1, Gh.name, this]; rfl
      · intro m cs hm
        rw [St.drop_box] at hm
        split at hm
        · simp at hm
        · rename_i hmn
          simp [G1, Gh.name, hmn]; rfl
      · intro m off sz hm
        rw [St.drop_own] at hm
        split at hm
        · simp at hm
        · rename_i hmn
          have : m ≠ n := fun e => hmn (by subst e; simp [Pl.inBox, Nm.beq_self])
          simp [G1, Gh.name, this]; rfl
      · intro j
        have : ¬ (Nm.o j = n) := by simp [n]
        simp [G1, Gh.name, this]; rfl
    · intro b o hne
      simp only [G1, Gh.name, Gh.push] at hne
      split at hne
      · rename_i hb; subst hb; simp
      · have := hr.wf b o hne; simp; omega
  have hA : G1.A n = (w.heap.size, 0) := by simp [G1, Gh.name]
  have hbox : BoxAt (w.alloc (.cells zv.cells t)) G1 n [.bl, .sl 1 []] := by
    intro j c hj
    rw [hA]
    have hj2 : j < 2 := (List.getElem?_eq_some_iff.1 hj).1
    refine ⟨by simp [G1, Gh.name, Gh.push, hj2], World.frozen?_alloc_new w zv.cells t _, ?_⟩
    dsimp only
    rw [Nat.zero_add, hnew, hcs]
    match j, hj with
    | 0, hj => simp only [List.getElem?_cons_zero, Option.some.injEq] at hj; subst hj; exact ⟨_, rfl, CRep.bl none⟩
    | 1, hj => simp only [List.getElem?_cons_succ, List.getElem?_cons_zero, Option.some.injEq] at hj; subst hj; exact ⟨_, rfl, CRep.nil 1⟩
    | j + 2, hj => omega
  have hrel : Rel E G1 (st.addBox n [.bl, .sl 1 []]) a (w.alloc (.cells zv.cells t)) := {
    df := hgrow.df
    tm := hgrow.tm
    bx := by
      intro m ds hm
      have : (st.addBox n [.bl, .sl 1 []]).box m = if n = m then some [.bl, .sl 1 []] else (st.drop n).box m := getB_cons _ _ _ _
      rw [this] at hm
      split at hm
      · rename_i he; subst he; simp only [Option.some.injEq] at hm; subst hm; exact hbox
      · exact hgrow.bx m ds hm
    ow := hgrow.ow
    wf := hgrow.wf
    olB := hgrow.olB
    olO := hgrow.olO
    nt := hgrow.nt
    oA := hgrow.oA
    im := hgrow.im
    im' := hgrow.im'
    fr := hgrow.fr
    hB := hgrow.hB
    lo := hgrow.lo
    bd := by
      intro t' k' ds hm hne
      have : (st.addBox n [.bl, .sl 1 []]).box (.bd t' k') = if n = .bd t' k' then some [.bl, .sl 1 []] else (st.drop n).box (.bd t' k') := getB_cons _ _ _ _
      rw [this] at hm
      split at hm
      · rename_i he
        rw [← he, hA]
        have he2 : t = t' / 4096 := by simp [n] at he; rw [← he.1]; exact hu.symm
        refine ⟨rfl, ?_, none, ?_, .inl rfl⟩
        · unfold World.shape?
          rw [show (w.alloc (.cells zv.cells t)).heap[w.heap.size]? = some (.cells zv.cells t) from Array.getElem?_push_size]
          simp [hcs, he2]
        · rw [hnew, hcs]; rfl
      · exact hgrow.bd t' k' ds hm hne
    mp := hgrow.mp }
  have hown := hrel.addOwn (p := .b n 1) (sz := 1) (v := .slice none 0 0) (by
    obtain ⟨q1, _, v, q3, _⟩ := hbox 1 _ rfl
    refine ⟨?_, q1⟩
    rw [hA] at q3 ⊢
    dsimp only
    rw [Nat.zero_add, hnew, hcs]; rfl) (.inl rfl)
  have hput := hown.put hdN (g := true) (x := .v (.ptr n 0)) (v := .pointer (some ⟨w.heap.size, 0, none⟩)) (fun _ => by show _ = _; rw [hA]) (fun hf => by simp at hf)
  unfold Oper.wp
  have : (execOp a.eval o).run Z.P w = .ok (.value (.pointer (some ⟨w.heap.size, 0, none⟩))) (w.alloc (.cells zv.cells t)) := by
    simp [execOp, ho, Instr.alloc, zeroValue, typeInfo, hi, hzv, newVar, newRow]
  rw [this, Oper.upon_value, hd]
  exact hK G1 _ _ hput
end Go.Abs
/- A Builder's methods as single steps. -/
set_option linter.unusedVariables false
set_option linter.unusedSimpArgs false
namespace Go.Abs
variable {Z : Pg}

theorem Rel.checked {E : Env} {G : Gh} {st : St} {a : Act} {w : World} (hr : Rel E G st a w) {t k : Nat} {cs : List C} (hb : st.box (.bd t k) = some (.bl :: cs)) :
    ∃ w0, Checked1 (G.A (.bd t k)).1 w w0 ∧ Rel E G (st.store (.bd t k) (.bl :: cs) 0 1) a w0 := by
  obtain ⟨q1, q2, x, q3, q4⟩ := hr.bd t k _ hb (by simp)
  rcases q4 with rfl | rfl
  · refine ⟨_, .inl ⟨q3, rfl⟩, ?_⟩
    have := hr.store1 hb (k := 0) (c := .bl) (v := .pointer (some ⟨(G.A (.bd t k)).1, 0, none⟩)) (by simp) (CRep.bl _) (fun _ _ => ⟨_, rfl, .inr rfl⟩)
    rw [q1] at this
    exact this
  · refine ⟨w, .inr ⟨q3, rfl⟩, ?_⟩
    refine Rel.sub (st := st) (st' := st.store (.bd t k) (.bl :: cs) 0 1) ⟨fun _ _ h => h, fun m ds hm => ?_, fun p s hp => ?_, .inr rfl⟩ hr
    · rw [St.store_box] at hm
      split at hm
      · rename_i he; subst he; rw [hb]; exact hm
      · exact hm
    · rw [St.store_own] at hp
      split at hp
      · simp at hp
      · exact hp

/-- The new buffer laid into the second cell. -/
theorem Rel.bdPut {E : Env} {G : Gh} {st : St} {a : Act} {w : World} {t k : Nat} {old : C} {rows : List (List C)} {u : Value} (hr : Rel E G (st.unown (.b (.bd t k) 1)) a w) (hb : st.box (.bd t k) = some [.bl, old])
    (hc : CRep w G.S (.sl 1 rows) u) (ho : OwnAt E.B w G (.b (.bd t k) 1) 1 u) :
    Rel E G (((st.unown (.b (.bd t k) 1)).store (.bd t k) [.bl, .sl 1 rows] 1 1).addOwn (.b (.bd t k) 1) 1) a (w.setCell ⟨(G.A (.bd t k)).1, 1, none⟩ u) := by
  have hb' : (st.unown (.b (.bd t k) 1)).box (.bd t k) = some [.bl, old] := hb
  obtain ⟨q1, _, _, _, _⟩ := hr.bd t k _ hb' (by simp)
  have h1 := hr.store1 hb' (k := 1) (c := .sl 1 rows) (v := u) (by simp) hc (fun _ e => by simp at e)
  obtain ⟨r1, r2, v, r3, r4⟩ := hr.bx _ _ hb' 1 old rfl
  rw [q1, Nat.zero_add] at h1 r1 r3
  refine h1.addOwn (v := u) ⟨?_, ?_⟩ ?_
  · rw [q1, Nat.zero_add]; exact World.cell?_setCell_same _ _ _ r3
  · rw [q1, Nat.zero_add]; exact r1
  · rcases ho with ho | ⟨blk, len, cap, e, q1, q2, q3, q4⟩
    · exact .inl ho
    · exact .inr ⟨blk, len, cap, e, q1, q2, ⟨by rw [shape_setCell]; exact q3.1, by rw [mark_setCell]; exact q3.2⟩, fun o ho1 ho2 => by rw [World.frozen?_setCell]; exact q4 o ho1 ho2⟩

/-- 'st' with other bytes in the Builder. -/
def St.bw (st : St) (t k : Nat) (l : List UInt8) : St := (st.store (.bd t k) [.bl, .sl 1 (bytesR l)] 0 2).addOwn (.b (.bd t k) 1) 1

theorem bw_sub {st : St} {t k : Nat} {cs : List C} {l : List UInt8} : Sub (st.bw t k l) ((((st.store (.bd t k) cs 0 1).unown (.b (.bd t k) 1)).store (.bd t k) [.bl, .sl 1 (bytesR l)] 1 1).addOwn (.b (.bd t k) 1) 1) where
  t := fun _ _ h => h
  bx := fun m ds hm => by
    have h1 : (st.store (.bd t k) [.bl, .sl 1 (bytesR l)] 0 2).box m = some ds := hm
    show (((st.store (.bd t k) cs 0 1).unown (.b (.bd t k) 1)).store (.bd t k) [.bl, .sl 1 (bytesR l)] 1 1).box m = _
    rw [St.store_box] at h1 ⊢
    split at h1
    · rename_i he; rw [if_pos he]; exact h1
    · rename_i he
      rw [if_neg he]
      show (st.store (.bd t k) cs 0 1).box m = _
      rw [St.store_box, if_neg he]; exact h1
  ow := fun p s hp => by
    unfold St.bw at hp
    rw [St.addOwn_own] at hp ⊢
    split at hp
    · rename_i he; rw [if_pos he]; exact hp
    · rename_i he
      rw [if_neg he]
      rw [St.store_own] at hp ⊢
      split at hp
      · simp at hp
      · rename_i hin
        have hin1 : ¬ Pl.inCells (.bd t k) 1 1 p = true := by
          intro h; apply hin
          cases p with
          | t j => simp [Pl.inCells] at h
          | b m j =>
            simp only [Pl.inCells, Bool.and_eq_true] at h ⊢
            refine ⟨h.1, Nat.ble_eq_true_of_le (Nat.zero_le _), Nat.ble_eq_true_of_le ?_⟩
            have := Nat.le_of_ble_eq_true h.2.2; omega
        have hin0 : ¬ Pl.inCells (.bd t k) 0 1 p = true := by
          intro h; apply hin
          cases p with
          | t j => simp [Pl.inCells] at h
          | b m j =>
            simp only [Pl.inCells, Bool.and_eq_true] at h ⊢
            refine ⟨h.1, Nat.ble_eq_true_of_le (Nat.zero_le _), Nat.ble_eq_true_of_le ?_⟩
            have := Nat.le_of_ble_eq_true h.2.2; omega
        rw [if_neg hin1, St.unown_own, if_neg (fun e => he e.symm), St.store_own, if_neg hin0]
        exact hp

theorem bytes_src {w : World} {S : Nat → Nat → Prop} (l : List UInt8) : ∀ (i j : Nat) (row : List C) (c : C), (bytesR l)[i]? = some row → row[j]? = some c → ∃ v, (byteCells ⟨l.toArray⟩)[i * 1 + j]? = some v ∧ CRep w S c v := by
  intro i j row c hi hj
  obtain ⟨b, h1, rfl⟩ := bytesR_get hi
  have hj0 : j = 0 := by have := (List.getElem?_eq_some_iff.1 hj).1; simp at this; omega
  subst hj0
  simp only [List.getElem?_cons_zero, Option.some.injEq] at hj
  subst hj
  exact ⟨.int .u8 (b.toNat : Int), by simp [byteCells, h1], CRep.i _ _⟩
theorem bytes_row (l : List UInt8) : ∀ (i : Nat) (row : List C), (bytesR l)[i]? = some row → row.length = 1 := by
  intro i row hi
  obtain ⟨b, h1, rfl⟩ := bytesR_get hi
  rfl

section
variable {N : Nat} {st : St} {ops : Array Oper} {rest : List Oper} {K : St → Prop} {o : Oper} {d k : Nat} {fo x y : Operand} {ts : Array TypeId} {m : List UInt8}

/-- The common part of both writings: 'pre' leads from the checked world to the one in which append runs. -/
theorem bd_write (B : BdSys Z) {E : Env} {G : Gh} {a : Act} {w : World} (hr : Rel E G st a w) (hb : st.box (.bd B.tN k) = some [.bl, .sl 1 (bytesR m)]) (hw : st.own (.b (.bd B.tN k) 1) = some 1) {l : List UInt8} {tx : TypeId} {xv : World → Value} {news : List Value} {pre : World → World}
    (hpre : ∀ w0, Rel E G (st.store (.bd B.tN k) [.bl, .sl 1 (bytesR m)] 0 1) a w0 → Rel E G (st.store (.bd B.tN k) [.bl, .sl 1 (bytesR m)] 0 1) a (pre w0) ∧ Src Z.P 1 tx (xv w0) (bytesR l).length news (pre w0) ∧
      ∀ b o, b < w0.heap.size → (pre w0).cell? ⟨b, o, none⟩ = w0.cell? ⟨b, o, none⟩)
    (hrep : ∀ (w' : World) (i j : Nat) (row : List C) (c : C), (bytesR l)[i]? = some row → row[j]? = some c → ∃ v, news[i * 1 + j]? = some v ∧ CRep w' G.S c v) (hlen : m.length + l.length ≤ 140737488355328) :
    ∃ w0 v' uo un uc w1, Checked1 (G.A (.bd B.tN k)).1 w w0 ∧ w.shape? (G.A (.bd B.tN k)).1 = some (B.tB, 2) ∧ w.frozen? ⟨(G.A (.bd B.tN k)).1, 0, none⟩ = false ∧ (G.A (.bd B.tN k)).2 = 0 ∧ w0.cell? ⟨(G.A (.bd B.tN k)).1, 1, none⟩ = some v' ∧
      (Builtin.append_ #[B.tS, tx] B.tS #[v', xv w0]).run Z.P (pre w0) = .ok (.slice uo un uc) w1 ∧ w1.cell? ⟨(G.A (.bd B.tN k)).1, 1, none⟩ = some v' ∧ w1.frozen? ⟨(G.A (.bd B.tN k)).1, 1, none⟩ = false ∧
      ∃ G1, Rel E G1 (st.bw B.tN k (m ++ l)) a (w1.setCell ⟨(G.A (.bd B.tN k)).1, 1, none⟩ (.slice uo un uc)) := by
  obtain ⟨q1, q2, x0, q3, _⟩ := hr.bd _ _ _ hb (by simp)
  obtain ⟨_, f0, _⟩ := hr.bx _ _ hb 0 _ rfl
  rw [q1, Nat.zero_add] at f0
  obtain ⟨w0, hck, hr0⟩ := hr.checked hb
  obtain ⟨hr1, hsrc, hsame⟩ := hpre w0 hr0
  have hin : Pl.inCells (.bd B.tN k) 0 1 (.b (.bd B.tN k) 1) = false := by simp [Pl.inCells, Nm.beq_self]; rfl
  have hown0 : (st.store (.bd B.tN k) [.bl, .sl 1 (bytesR m)] 0 1).own (.b (.bd B.tN k) 1) = some 1 := by rw [St.store_own, if_neg (by rw [hin]; simp)]; exact hw
  have hbox0 : (st.store (.bd B.tN k) [.bl, .sl 1 (bytesR m)] 0 1).box (.bd B.tN k) = some [.bl, .sl 1 (bytesR m)] := by rw [St.store_box, if_pos rfl]
  obtain ⟨v', hv', hown⟩ := hr1.ow _ _ hown0
  obtain ⟨r1, r2, u, r3, r4⟩ := hr1.bx _ _ hbox0 1 _ rfl
  obtain ⟨b1, b2, b3, b4, b5⟩ : w0.cell? ⟨(G.A (.bd B.tN k)).1, 1, none⟩ = (pre w0).cell? ⟨(G.A (.bd B.tN k)).1, 1, none⟩ ∧ u = v' ∧ (pre w0).cell? ⟨(G.A (.bd B.tN k)).1, 1, none⟩ = some v' ∧ (G.A (.bd B.tN k)).1 < (pre w0).heap.size ∧ G.W (G.A (.bd B.tN k)).1 1 = .box (.bd B.tN k) := by
    obtain ⟨s1, _, u0, s3, _⟩ := hr0.bx _ _ hbox0 1 _ rfl
    rw [q1, Nat.zero_add] at s1 s3
    have hlt : (G.A (.bd B.tN k)).1 < w0.heap.size := World.block_lt_of_cell? (a := ⟨(G.A (.bd B.tN k)).1, 1, none⟩) w0 s3
    have h2 := hv'.1
    rw [q1, Nat.zero_add] at h2 r3
    have hlt2 : (G.A (.bd B.tN k)).1 < (pre w0).heap.size := World.block_lt_of_cell? (a := ⟨(G.A (.bd B.tN k)).1, 1, none⟩) _ r3
    refine ⟨(hsame _ _ hlt).symm, ?_, h2, hlt2, s1⟩
    rw [r3] at h2; exact Option.some.inj h2
  subst b2
  obtain ⟨G1, w1, uo, un, uc, hrun, hrel, hc, ho, hA, hcell⟩ := app_core hr1 (p := .b (.bd B.tN k) 1) (tx := tx) (ty := B.tS) (xs := bytesR l) (news := news) B.hu B.hinfo B.hsz B.hby (by omega) B.hze rfl r4 hown hsrc (bytes_row l) (fun i j row c h1 h2 => hrep _ i j row c h1 h2) (by
      rw [bytesR_len, bytesR_len]; omega) (by rw [bytesR_len, bytesR_len]; omega) (fun t' k' o' hh => by simp at hh; rw [← hh.1.1]; exact B.hN2.symm)
  rw [← bytesR_app] at hc
  have hc1 : w1.cell? ⟨(G.A (.bd B.tN k)).1, 1, none⟩ = some u := by
    rw [hcell _ _ b4 (by rw [b5]; simp)]; exact b3
  have hput := Rel.bdPut hrel hbox0 hc ho
  obtain ⟨_, f1, _⟩ := hrel.bx (.bd B.tN k) _ hbox0 1 _ rfl
  rw [hA] at hput f1
  rw [q1, Nat.zero_add] at f1
  exact ⟨w0, u, uo, un, uc, w1, hck, (B.hN1 ▸ q2), f0, q1, by rw [b1]; exact b3, hrun, hc1, f1, G1, hput.sub bw_sub⟩

theorem al_bws (B : BdSys Z) {l : List UInt8} (ho : o.op = .call { callee := .value fo, args := #[x, y], argTypes := ts }) (hg : gateOf ops st o = some true) (hd : o.dst = some d) (hN : Nat.ble (d + 1) N = true)
    (hf : lk Z.T st 0 fo = some (true, .fn B.fW [])) (ha : lkAll Z.T st ts.toList [x, y] = some (true, [.v (.ptr (.bd B.tN k) 0), .v (.c (.s l))]))
    (hb : st.box (.bd B.tN k) = some [.bl, .sl 1 (bytesR m)]) (hw : st.own (.b (.bd B.tN k) 1) = some 1) (hlen : m.length + l.length ≤ 140737488355328)
    (h : AL Z N ops rest K ((st.bw B.tN k (m ++ l)).put d (true, .tup [.c (.i .i64 (l.length : Int)), .c (.o .nilIface)]))) : AL Z N ops (o :: rest) K st := by
  refine al_op1 (fun E G a w hr hE K' Q' hK => ?_) h
  have hdN : d < E.nt := by rw [hE.nt]; exact Nat.le_of_ble_eq_true hN
  rw [wanted_gate hr hg]
  simp only [if_true]
  obtain ⟨cvs, hfv, hcv⟩ := lk_rep hr hf rfl
  have hcv0 : cvs = [] := by cases cvs with
    | nil => rfl
    | cons _ _ => exact hcv.elim
  subst hcv0
  obtain ⟨hx, hy, _⟩ := lkAll_rep hr ha rfl
  have hx1 : a.eval x = _ := hx
  have hy1 := XRep.str hy
  unfold Oper.wp
  rw [run_call ho hfv B.enW, Oper.upon_enter]
  obtain ⟨w0, v', uo, un, uc, w1, hck, hsh, hfz, hA0, hc0, hrun, hc1, hf1, G1, hrel⟩ := bd_write B hr hb hw (l := l) (tx := B.tStr) (xv := fun _ => .string ⟨l.toArray⟩) (news := byteCells ⟨l.toArray⟩) (pre := fun w => w)
    (fun w0 h0 => ⟨h0, by
      have := Src.ofString (P := Z.P) w0 B.hstr ⟨l.toArray⟩
      rw [size_mk] at this
      rw [bytesR_len]; exact this, fun _ _ _ => rfl⟩) (fun w' => bytes_src l) hlen
  have hcall := B.ws (G.A (.bd B.tN k)).1 w w0 w1 v' uo un uc ⟨l.toArray⟩ hck hsh hfz hc0 hrun hc1 hf1
  have hargs : ((#[x, y] : Array Operand).toList.map a.eval ++ []).toArray = #[.pointer (some ⟨(G.A (.bd B.tN k)).1, 0, none⟩), .string ⟨l.toArray⟩] := by
    simp [hx1, hy1, hA0]
  rw [hargs]
  refine hcall.mono ?_
  rintro e w' ⟨rfl, rfl⟩
  dsimp only
  rw [hd] at hK ⊢
  refine hK G1 _ _ (hrel.put hdN (g := true) (fun _ => ?_) (fun hf => by simp at hf))
  exact ⟨[.int .i64 (l.length : Int), .nilIface], by rw [size_mk], CRep.i _ _, CRep.o _ rfl, trivial⟩

theorem al_bwb (B : BdSys Z) {c : UInt8} {cv : Int} (ho : o.op = .call { callee := .value fo, args := #[x, y], argTypes := ts }) (hg : gateOf ops st o = some true) (hd : o.dst = some d) (hN : Nat.ble (d + 1) N = true)
    (hf : lk Z.T st 0 fo = some (true, .fn B.fB [])) (ha : lkAll Z.T st ts.toList [x, y] = some (true, [.v (.ptr (.bd B.tN k) 0), .v (.c (.i .u8 cv))])) (hcv : cv = (c.toNat : Int))
    (hb : st.box (.bd B.tN k) = some [.bl, .sl 1 (bytesR m)]) (hw : st.own (.b (.bd B.tN k) 1) = some 1) (hlen : m.length + 1 ≤ 140737488355328)
    (h : AL Z N ops rest K ((st.bw B.tN k (m ++ [c])).put d (true, .v (.c (.o .nilIface))))) (hB : B.hasB = true := by rfl) : AL Z N ops (o :: rest) K st := by
  refine al_op1 (fun E G a w hr hE K' Q' hK => ?_) h
  have hdN : d < E.nt := by rw [hE.nt]; exact Nat.le_of_ble_eq_true hN
  rw [wanted_gate hr hg]
  simp only [if_true]
  obtain ⟨cvs, hfv, hcv'⟩ := lk_rep hr hf rfl
  have hcv0 : cvs = [] := by cases cvs with
    | nil => rfl
    | cons _ _ => exact hcv'.elim
  subst hcv0
  obtain ⟨hx, hy, _⟩ := lkAll_rep hr ha rfl
  have hx1 : a.eval x = _ := hx
  have hy1 := XRep.int hy
  unfold Oper.wp
  rw [run_call ho hfv (B.enB hB), Oper.upon_enter]
  obtain ⟨w0, v', uo, un, uc, w1, hck, hsh, hfz, hA0, hc0, hrun, hc1, hf1, G1, hrel⟩ := bd_write B hr hb hw (l := [c]) (tx := B.tS) (xv := fun w => .slice (some ⟨w.heap.size, 0, none⟩) 1 1) (news := [.int .u8 cv]) (pre := fun w => w.alloc (.cells #[.int .u8 cv] B.tU))
    (fun w0 h0 => ⟨h0.grow (fr_alloc w0 _) (fun _ _ _ => rfl) (SameA.refl _ _) (fun b o hb => by have := h0.wf b o hb; simp; omega), by
      have := Src.ofSlice (P := Z.P) (size := 1) (w0.alloc (.cells #[.int .u8 cv] B.tU)) B.hu ⟨w0.heap.size, 0, none⟩ 1 1 [.int .u8 cv] rfl (fun j u hj => by
        rw [addr_add, World.cell?_alloc_new, Nat.zero_add]
        match j, hj with
        | 0, hj => simpa using hj
        | j + 1, hj => simp at hj) (fun u hu => by simp at hu; subst hu; rfl)
      rw [bytesR_len]; exact this, fun b o hb => World.cell?_alloc_lt w0 _ _ hb⟩) (fun w' i j row c' hi hj => by
      obtain ⟨b, h1, rfl⟩ := bytesR_get hi
      have hi0 : i = 0 := by have := (List.getElem?_eq_some_iff.1 h1).1; simp at this; omega
      subst hi0
      have hj0 : j = 0 := by have := (List.getElem?_eq_some_iff.1 hj).1; simp at this; omega
      subst hj0
      simp only [List.getElem?_cons_zero, Option.some.injEq] at h1 hj
      subst h1; subst hj
      exact ⟨_, rfl, by rw [hcv]; exact CRep.i _ _⟩) (by simpa using hlen)
  have hcall := B.wb hB (G.A (.bd B.tN k)).1 w w0 w1 v' uo un uc cv hck hsh hfz hc0 hrun hc1 hf1
  have hargs : ((#[x, y] : Array Operand).toList.map a.eval ++ []).toArray = #[.pointer (some ⟨(G.A (.bd B.tN k)).1, 0, none⟩), .int .u8 cv] := by
    simp [hx1, hy1, hA0]
  rw [hargs]
  refine hcall.mono ?_
  rintro e w' ⟨rfl, rfl⟩
  dsimp only
  rw [hd] at hK ⊢
  exact hK G1 _ _ (hrel.put hdN (g := true) (fun _ => CRep.o _ rfl) (fun hf => by simp at hf))
end
end Go.Abs
/- Loops over what changes; structs held against each other; bytes as strings; made slices. -/
set_option linter.unusedVariables false
set_option linter.unusedSimpArgs false
namespace Go.Abs
variable {Z : Pg}

/-- A loop: 'F' stays, 'V' and 'VB' go from round to round. -/
theorem awp_for {N : Nat} {ι : Type} {c : Code} {Q : Exit → St → Prop} {st : St} (F : St) (V : ι → List (Nat × Bool × X)) (VB : ι → List (Nm × List C)) (ok : ι → Prop) (m : ι → Nat) (i0 : ι) (h0 : ok i0)
    (hs : Sub { t := V i0 ++ F.t, bx := VB i0 ++ F.bx, ow := F.ow, mp := F.mp } st)
    (round : ∀ i, ok i → AWP Z N c (thenS (fun s => ∃ j, ok j ∧ m j < m i ∧ Sub { t := V j ++ F.t, bx := VB j ++ F.bx, ow := F.ow, mp := F.mp } s) Q) { t := V i ++ F.t, bx := VB i ++ F.bx, ow := F.ow, mp := F.mp }) : AWP Z N (.loop c) Q st :=
  awp_loop (fun i => { t := V i ++ F.t, bx := VB i ++ F.bx, ow := F.ow, mp := F.mp }) ok m i0 h0 hs round

/-- Two cells of a kind (0: bool, 1: integer, 2: string) held against each other. -/
def eqC : Nat → C → C → Option Bool
  | 1, .i k m, .i k' n => cond (decide (k = k')) (some (m == n)) none
  | 0, .b x, .b y => some (x == y)
  | 2, .s l, .s m => some (l == m)
  | _, _, _ => none
def eqFl : List Nat → List C → List C → Option Bool
  | [], [], [] => some true
  | k :: ks, c :: cs, d :: ds => match eqC k c d, eqFl ks cs ds with
    | some x, some y => some (x && y)
    | _, _ => none
  | _, _, _ => none
def kindOf (P : Program) (t : TypeId) : Option Nat := match P.underlying t with
  | some .bool => some 0
  | some (.int _) => some 1
  | some .string => some 2
  | _ => none
/-- The fields are plain, one cell each. -/
def flatK (P : Program) : List Field → Nat → Option (List Nat)
  | [], _ => some []
  | f :: r, n => cond (Nat.beq f.offset n && f.name != "_") (match kindOf P f.type, flatK P r (n + 1) with
    | some k, some ks => some (k :: ks)
    | _, _ => none) none
theorem run_eqC {P : Program} {w : World} {S : Nat → Nat → Prop} {c d : C} {u v : Value} {r : Bool} {t : TypeId} {q : Nat} (n : Nat) (hu : CRep w S c u) (hv : CRep w S d v) (h : eqC q c d = some r)
    (ht : kindOf P t = some q) : (Op.equalIn (n + 1) t u v).run P w = .ok r w := by
  unfold kindOf at ht
  unfold eqC at h
  split at h
  · rename_i k m k' n'
    cases hu; cases hv
    by_cases hk : k = k'
    · subst hk
      simp at h; subst h
      split at ht <;> first | (rename_i hd; simp at ht; done) | skip
      all_goals first
        | (rename_i hd; exact run_equalIn_int w n t k _ m n' hd)
        | (simp at ht)
    · simp [hk] at h
  · cases hu; cases hv
    simp at h; subst h
    split at ht <;> first
      | (rename_i hd; exact run_equalIn_bool' w n t _ _ hd)
      | (simp at ht)
  · rename_i l m
    cases hu; cases hv
    simp at h; subst h
    split at ht <;> first
      | (rename_i hd; rw [run_equalIn_string w n t _ _ hd, toList_mk, toList_mk])
      | (simp at ht)
  · simp at h
theorem kind_notAgg {P : Program} {w : World} {t : TypeId} {q : Nat} (ht : kindOf P t = some q) : (isAgg t).run P w = .ok false w := by
  unfold kindOf at ht
  unfold isAgg underlying
  split at ht <;> simp_all
theorem run_eqFl {P : Program} {w : World} {S : Nat → Nat → Prop} {xs ys : Array Value} (n : Nat) : ∀ {fs : List Field} {off : Nat} {ks : List Nat} {cs ds : List C} {us vs : List Value} {r : Bool}, flatK P fs off = some ks → eqFl ks cs ds = some r →
    All2 (CRep w S) cs us → All2 (CRep w S) ds vs → xs.toList.drop off = us → ys.toList.drop off = vs → (Op.eqFields (n + 1) xs ys fs).run P w = .ok r w
  | [], off, ks, cs, ds, us, vs, r, hf, he, _, _, _, _ => by
    simp [flatK] at hf; subst hf
    unfold eqFl at he
    split at he <;> simp_all [Op.eqFields]
  | f :: fs, off, ks, cs, ds, us, vs, r, hf, he, hu, hv, hx, hy => by
    simp only [flatK] at hf
    cases hb : (Nat.beq f.offset off && f.name != "_") with
    | false => rw [hb] at hf; simp at hf
    | true =>
      rw [hb] at hf
      simp only [cond_true] at hf
      rw [Bool.and_eq_true] at hb
      have hoff : f.offset = off := Nat.eq_of_beq_eq_true hb.1
      have hname : f.name ≠ "_" := by simpa using hb.2
      split at hf
      · rename_i k ks' hk hks
        simp at hf; subst hf
        unfold eqFl at he
        split at he
        · simp_all
        · rename_i k2 ks2 c cs' d ds' heq
          obtain ⟨rfl, rfl⟩ := List.cons.inj heq
          split at he
          · rename_i x y hx1 hy1
            simp at he; subst he
            cases us with
            | nil => exact hu.elim
            | cons u us =>
            cases vs with
            | nil => exact hv.elim
            | cons v vs =>
            have hxu : xs[off]? = some u := by
              have := congrArg (·[0]?) hx
              simpa [List.getElem?_drop] using this
            have hyv : ys[off]? = some v := by
              have := congrArg (·[0]?) hy
              simpa [List.getElem?_drop] using this
            have hx2 : xs.toList.drop (off + 1) = us := by rw [← List.drop_drop, hx]; rfl
            have hy2 : ys.toList.drop (off + 1) = vs := by rw [← List.drop_drop, hy]; rfl
            have ih := run_eqFl (P := P) (w := w) (S := S) (xs := xs) (ys := ys) n hks hy1 hu.2 hv.2 hx2 hy2
            have h1 := run_eqC (P := P) n hu.1 hv.1 hx1 hk
            have hA := kind_notAgg (w := w) hk
            simp only [Op.eqFields, if_pos hname, Sem.run_bind]
            have hp1 : (part f.type xs f.offset).run P w = .ok u w := by simp [part, hA, hoff, hxu]
            have hp2 : (part f.type ys f.offset).run P w = .ok v w := by simp [part, hA, hoff, hyv]
            rw [hp1]
            simp only [Result.andThen_ok]
            rw [hp2]
            simp only [Result.andThen_ok]
            rw [h1]
            simp only [Result.andThen_ok]
            cases x with
            | false => simp
            | true => simpa using ih
          · simp at he
        · simp at he
      · simp at hf
section
variable {st : St} {ty : TypeId} {gate : Bool}
theorem pure_eqStruct {x y : Operand} {t t' : TypeId} {gx gy neg : Bool} {cs ds : List C} {fs : Array Field} {ks : List Nat} {r : Bool} {op : BinOp} (hop : (op = .eql ∧ neg = false) ∨ (op = .neq ∧ neg = true))
    (hx : lk Z.T st ty x = some (gx, .v (.agg cs))) (hy : lk Z.T st ty y = some (gy, .v (.agg ds)))
    (hgx : gate = true → gx = true) (hgy : gate = true → gy = true) (hu : Z.P.underlying t = some (.struct fs)) (hk : flatK Z.P fs.toList 0 = some ks) (hst : Z.P.stoodInHeld t = false) (heg : Z.P.eqGuardType Z.P.depth t = false)
    (he : eqFl ks cs ds = some r) : PureOk Z st (.binOp op t x y t') ty gate (.v (.c (.b (r != neg)))) := by
  intro o E G a w ho hty hr hgt
  obtain ⟨us, hus, hcu⟩ := lk_rep hr hx (hgx hgt)
  obtain ⟨vs, hvs, hcv⟩ := lk_rep hr hy (hgy hgt)
  have hfo : Z.P.fieldsOf t = fs := by simp [Program.fieldsOf, hu]
  have hrun : (Op.equalIn 10000 t (.agg us.toArray) (.agg vs.toArray)).run Z.P w = .ok r w := by
    rw [show (10000 : Nat) = 9998 + 1 + 1 from rfl, run_equalIn_agg w _ t _ _ (by rw [hfo]; exact hu) hst, hfo]
    exact run_eqFl 9998 hk he hcu hcv (by simp) (by simp)
  refine ⟨.bool (r != neg), CRep.b _, ?_⟩
  simp only [execOp, ho, hus, hvs, Sem.run_bind, run_eqGuard_agg w op t x y _ _ heg, Result.andThen_ok]
  rcases hop with ⟨rfl, rfl⟩ | ⟨rfl, rfl⟩
  · rw [run_eql_struct, hrun]; simp [Result.andThen]
  · rw [run_neq_struct, hrun]; simp [Result.andThen]
theorem pure_quoG {t t' : TypeId} {x y : Operand} {gx gy : Bool} {k : IntKind} {m n s : Int} (hx : lk Z.T st ty x = some (gx, .v (.c (.i k m)))) (hy : lk Z.T st ty y = some (gy, .v (.c (.i k n))))
    (hgx : gate = true → gx = true) (hgy : gate = true → gy = true) (hn : gate = true → n ≠ 0) (hs : gate = true → k.wrap (m.tdiv n) = s) : PureOk Z st (.binOp .quo t x y t') ty gate (.v (.c (.i k s))) := by
  intro o E G a w ho hty hr hgt
  exact pure_quo hx hy hgx hgy (hn hgt) (hs hgt) o E G a w ho hty hr hgt
theorem pure_remG {t t' : TypeId} {x y : Operand} {gx gy : Bool} {k : IntKind} {m n s : Int} (hx : lk Z.T st ty x = some (gx, .v (.c (.i k m)))) (hy : lk Z.T st ty y = some (gy, .v (.c (.i k n))))
    (hgx : gate = true → gx = true) (hgy : gate = true → gy = true) (hn : gate = true → n ≠ 0) (hs : gate = true → m.tmod n = s) : PureOk Z st (.binOp .rem t x y t') ty gate (.v (.c (.i k s))) := by
  intro o E G a w ho hty hr hgt
  exact pure_rem hx hy hgx hgy (hn hgt) (hs hgt) o E G a w ho hty hr hgt
/-- 'string(b)'. -/
theorem pure_bytesStr {x : Operand} {src dst e : TypeId} {g : Bool} {l : List UInt8} {es : List (List C)} (h : lk Z.T st ty x = some (g, .v (.c (.sl 1 es)))) (hes : es = bytesR l) (hg : gate = true → g = true)
    (hs : Z.P.underlying src = some (.slice e)) (he : Z.P.underlying e = some (.int .u8)) (hd : Z.P.underlying dst = some .string) : PureOk Z st (.convert src dst x) ty gate (.v (.c (.s l))) := by
  subst hes
  intro o E G a w ho hty hr hgt
  have hc : CRep w G.S (.sl 1 (bytesR l)) _ := lk_rep hr h (hg hgt)
  have hlm := hc.lenMax
  rw [bytesR_len] at hlm
  refine ⟨.string ⟨l.toArray⟩, CRep.s l hlm, ?_⟩
  have hrun : (convert src dst (a.eval x)).run Z.P w = .ok (.string ⟨l.toArray⟩) w := by
    generalize a.eval x = v at hc
    rcases hc.sl_cases with ⟨a', rfl, he0⟩ | ⟨blk, off, len, cap, rfl, hlen⟩
    · have hl0 : l = [] := by
        cases l with
        | nil => rfl
        | cons b l => simp [bytesR] at he0
      subst hl0
      cases a' with
      | none =>
        rw [run_convert_bytes_string w src dst e none 0 0 hs he hd]
        simp [Conv.bytesToString]
        rfl
      | some a' => exact run_convert_bytes_back w src dst e a' 0 [] hs he hd (fun j hj => by simp at hj)
    · obtain ⟨h1, h2, h3, h4⟩ := hc.elem
      rw [bytesR_len] at h1
      subst h1
      refine run_convert_bytes_back w src dst e _ cap l hs he hd fun j hj => ?_
      obtain ⟨_, hrow⟩ := h4 j [.i .u8 (l[j].toNat : Int)] (by simp [bytesR, List.getElem?_eq_getElem hj])
      obtain ⟨_, u, q1, q2⟩ := hrow 0 _ rfl
      cases q2
      rw [addr_add]
      simpa using q1
  simp only [execOp, ho, Sem.run_bind, hrun, Result.andThen_ok]
  rfl
end
/-- 'make': a slice of zeros over a box of its own. -/
theorem does_makeMs {N : Nat} {st : St} {ty d : Nat} {t e sz by' : Nat} {x y : Operand} {ti te : TyI} {n : Nat} {m : Int} {k : IntKind} (hx : lk Z.T st ty x = some (true, .v (.c (.i k m)))) (hy : lk Z.T st ty y = some (true, .v (.c (.i k m))))
    (ht : tyAt Z.T t = some ti) (hel : ti.el = some (e, sz, by')) (hte : tyAt Z.T e = some te) (hN : Nat.ble (d + 1) N = true) (hfr : st.fresh (.l d) = true) (hm : m = (n : Int)) (hbig : n * by' ≤ 140737488355328) (hmax : n ≤ 9223372036854775807) :
    Does Z N st (some d) (.makeSlice t x y) ty ((st.addBox (.l d) (List.replicate n te.z).flatten).put d (true, .v (.ms (.l d) sz 0 n))) := by
  intro o E G a w hd ho _ hr hE K Q hK
  have hdN : d < E.nt := by rw [hE.nt]; exact Nat.le_of_ble_eq_true hN
  obtain ⟨hu, jf, ze, hinfo, hsz, hby, hsz0, hze, hzec⟩ := (Z.tyOk ht).sl e sz by' hel
  obtain ⟨i, dd, zv, hi, _, hin, _, hzv, _, hall⟩ := (Z.tyOk hte).info
  obtain rfl : i = jf := Option.some.inj (hi.symm.trans hinfo)
  obtain rfl : zv = ze := Option.some.inj (hzv.symm.trans hze)
  have hzl : te.z.length = sz := by rw [hall.len, Array.length_toList, hzec]
  have hx1 := XRep.int (lk_rep hr hx rfl)
  have hy1 := XRep.int (lk_rep hr hy rfl)
  have hrun := run_make (P := Z.P) w t e i zv hu hinfo hze k k m m (by omega) (Int.le_refl _) (by
    have hc : i.bytes * n = n * by' := by rw [hby, Nat.mul_comm]
    have : ((i.bytes * n : Nat) : Int) ≤ 281474976710656 := by omega
    rw [hm]; simpa using this) (by omega)
  have hn : m.toNat = n := by omega
  rw [hn, hsz] at hrun
  have hrows : ∀ (i : Nat) (row : List C), (List.replicate n te.z)[i]? = some row → row.length = sz := by
    intro i row hi
    rw [List.getElem?_replicate] at hi
    split at hi
    · simp at hi; rw [← hi]; exact hzl
    · simp at hi
  have hlen : (List.replicate n te.z).flatten.length = n * sz := by rw [flat_len hrows]; simp
  have hcells : All2 (CRep w G.S) (List.replicate n te.z).flatten (madeCells zv.cells (n * sz)).toList := by
    refine All2.mk (by rw [hlen, Array.length_toList, size_madeCells]) fun j c v hj hv => ?_
    obtain ⟨i', j', row, rfl, hj', hrow, hc⟩ := flat_get hrows hj
    rw [List.getElem?_replicate] at hrow
    split at hrow
    · simp at hrow; subst hrow
      obtain ⟨u, hu1, hu2⟩ := hall.get j' c hc
      have hmod : (i' * sz + j') % sz = j' := by rw [Nat.mul_comm, Nat.mul_add_mod]; exact Nat.mod_eq_of_lt hj'
      have hv2 : v = u := by
        have hlt : i' * sz + j' < n * sz := by have := (List.getElem?_eq_some_iff.1 hj).1; omega
        simp only [madeCells, Array.toList_map, Array.toList_range, List.getElem?_map, List.getElem?_range hlt, Option.map_some, Option.some.injEq] at hv
        rw [hzec, hmod] at hv
        rw [← hv]
        have : zv.cells[j']? = some u := by simpa using hu1
        rw [getElem!_def, this]
      subst hv2
      exact CRep.ofConst hu2
    · simp at hrow
  obtain ⟨G1, hrel, hA⟩ := hr.newBox (d := d) (fun _ _ _ hk => St.fresh_has hfr hk) (t := e) hcells
  have hput := hrel.put hdN (g := true) (x := .v (.ms (.l d) sz 0 n)) (v := .slice (some ⟨w.heap.size, 0, none⟩) n n) (fun _ => .inr ⟨n, Nat.le_refl _, by rw [hA]⟩) (fun hf => by simp at hf)
  unfold Oper.wp
  have : (execOp a.eval o).run Z.P w = .ok (.value (.slice (some ⟨w.heap.size, 0, none⟩) n n)) (w.alloc (.cells (madeCells zv.cells (n * sz)) e)) := by
    simp only [execOp, ho, hx1, hy1, Sem.run_bind, hrun, Result.andThen_ok]
    rfl
  rw [this, Oper.upon_value, hd]
  exact hK G1 _ _ hput
end Go.Abs
/- Zero slices in structs, exactly: so that their box owns what is appended to them. -/
set_option linter.unusedVariables false
set_option linter.unusedSimpArgs false
namespace Go.Abs
variable {Z : Pg}
/-- A zero cell, exactly. -/
def C.ex : C → C
  | .sl _ [] => .o (.slice none 0 0)
  | c => c
theorem ex_rep {w : World} {S : Nat → Nat → Prop} {c : C} {v : Value} (h : constV c v = true) : CRep w S c.ex v := by
  unfold C.ex
  split
  · unfold constV at h
    split at h <;> first
      | (rename_i he; simp at he; done)
      | skip
    all_goals first
      | exact CRep.o _ rfl
      | simp_all
  · exact CRep.ofConst h
theorem All2.exs {w : World} {S : Nat → Nat → Prop} : ∀ {cs : List C} {vs : List Value}, All2 (fun c v => constV c v = true) cs vs → All2 (CRep w S) (cs.map C.ex) vs
  | [], [], _ => trivial
  | _ :: _, _ :: _, h => ⟨ex_rep h.1, All2.exs h.2⟩
  | [], _ :: _, h => h.elim
  | _ :: _, [], h => h.elim
section
variable {N : Nat} {st : St} {ty : TypeId} {gate : Bool} {ops : Array Oper} {rest : List Oper} {K : St → Prop}
theorem does_allocXG {d : Nat} {t : TypeId} {ti : TyI} (ht : tyAt Z.T t = some ti) (hN : Nat.ble (d + 1) N = true) (hfr : ∀ k g x, st.get k = some (g, x) → x.has (.l d) = false) :
    Does Z N st (some d) (.alloc t) ty ((st.addBox (.l d) (ti.z.map C.ex)).put d (true, .v (.ptr (.l d) 0))) := by
  intro o E G a w hd ho _ hr hE K Q hK
  have hdN : d < E.nt := by rw [hE.nt]; exact Nat.le_of_ble_eq_true hN
  obtain ⟨i, dd, zv, hi, _, _, _, hz, _, hall⟩ := (Z.tyOk ht).info
  obtain ⟨G', hr'⟩ := hr.boxed hdN hfr (t := t) (All2.exs (w := w) (S := G.S) hall)
  unfold Oper.wp
  have : (execOp a.eval o).run Z.P w = .ok (.value (.pointer (some ⟨w.heap.size, 0, none⟩))) (w.alloc (.cells zv.cells t)) := by
    simp [execOp, ho, Instr.alloc, zeroValue, typeInfo, hi, hz, newVar, newRow]
  rw [this, Oper.upon_value, hd]
  exact hK G' _ _ hr'
theorem does_allocX {d : Nat} {t : TypeId} {ti : TyI} {cs : List C} (ht : tyAt Z.T t = some ti) (hz : ti.z.map C.ex = cs) (hN : Nat.ble (d + 1) N = true) (hfr : st.fresh (.l d) = true) :
    Does Z N st (some d) (.alloc t) ty ((st.addBox (.l d) cs).put d (true, .v (.ptr (.l d) 0))) := by
  subst hz; exact does_allocXG ht hN fun _ _ _ hk => St.fresh_has hfr hk
theorem pure_buildX {t : TypeId} {parts : Array (Nat × Operand)} {fs : Array Field} {ti : TyI} {g : Bool} {out : List C} (ht : tyAt Z.T t = some ti) (hu : Z.P.underlying t = some (.struct fs))
    (hb : buildC Z.T st fs.toList parts.toList (ti.z.map C.ex) = some (g, out)) (hg : gate = true → g = true) : PureOk Z st (.build t parts) ty gate (.v (.agg out)) := by
  intro o E G a w ho _ hr hgt
  obtain ⟨i, zv, hi, hz, hzv, hall⟩ := TyOk.fields (Z.ty ht) hu
  obtain ⟨places, hp⟩ := MapFrom.mapM_some (f := fun f => (Z.P.info? f.type).map fun i => (f.offset, i.size)) (l := fs.toList) (fun f hf => by
    obtain ⟨j, hj⟩ := hall f hf
    exact ⟨_, by rw [hj]; rfl⟩)
  obtain ⟨cells, h1, h2⟩ := buildC_fill hr (place := (places.toArray[·]?)) (fun k f tj hk htj => by
    have := mapM_some_get hp k f hk
    obtain ⟨j, _, _, hj, _, hn, _⟩ := (Z.tyOk htj).info
    rw [hj] at this
    simp only [List.getElem?_toArray]
    rw [← this, ← hn]; rfl) hb (hg hgt) (All2.exs (w := w) (S := G.S) hzv)
  refine ⟨.agg cells, ⟨cells.toList, by simp, h2⟩, ?_⟩
  have hbuilt : Z.P.built t (parts.map fun (i, x) => (i, a.eval x)).toList = some cells := by
    unfold Program.built
    simp only [hi, hu, hz, hp]
    rw [Array.toList_map]
    exact h1
  simp only [execOp, ho]
  simp [run_build w t _ cells hbuilt]
/-- 'st' in which the box owns what will stand behind its zero slice. -/
def St.own0 (st : St) (n : Nm) (cs : List C) (off sz : Nat) : St := ({ st with bx := (n, cs.set off (.sl sz [])) :: st.bx } : St).addOwn (.b n off) sz
theorem Rel.own0 {E : Env} {G : Gh} {st : St} {a : Act} {w : World} (h : Rel E G st a w) {n : Nm} {cs : List C} {off sz : Nat} (hb : st.box n = some cs) (hc : cs[off]? = some (.o (.slice none 0 0))) : Rel E G (st.own0 n cs off sz) a w := by
  have hlt : off < cs.length := (List.getElem?_eq_some_iff.1 hc).1
  have hbox := h.bx n cs hb
  have hr : Rel E G { st with bx := (n, cs.set off (.sl sz [])) :: st.bx } a w := {
    df := h.df
    tm := h.tm
    bx := by
      intro m ds hm
      have : getB ((n, cs.set off (.sl sz [])) :: st.bx) m = some ds := hm
      rw [getB_cons] at this
      split at this
      · rename_i he; subst he
        simp only [Option.some.injEq] at this; subst this
        intro j c hj
        rw [List.getElem?_set] at hj
        split at hj
        · rename_i he; subst he
          simp only [Option.some.injEq] at hj; subst hj
          obtain ⟨q1, q2, v, q3, q4⟩ := hbox off _ hc
          cases q4
          exact ⟨q1, q2, _, q3, CRep.nil sz⟩
        · exact hbox j c hj
      · exact h.bx m ds this
    ow := h.ow
    wf := h.wf
    olB := h.olB
    olO := h.olO
    nt := h.nt
    oA := h.oA
    im := h.im
    im' := h.im'
    fr := h.fr
    hB := h.hB
    lo := h.lo
    bd := by
      intro t k ds hm hne
      have : getB ((n, cs.set off (.sl sz [])) :: st.bx) (.bd t k) = some ds := hm
      rw [getB_cons] at this
      split at this
      · rename_i he; subst he
        exact h.bd t k cs hb (by intro e; subst e; simp at hlt)
      · exact h.bd t k ds this hne
    mp := h.mp }
  obtain ⟨q1, q2, v, q3, q4⟩ := hbox off _ hc
  cases q4
  exact hr.addOwn (p := .b n off) (v := .slice none 0 0) ⟨q3, q1⟩ (.inl rfl)
theorem awp_own {c : Code} {Q : Exit → St → Prop} (n : Nm) (off sz : Nat) {cs ds : List C} (hb : st.box n = some cs) (hc : cs[off]? = some (.o (.slice none 0 0))) (hds : cs.set off (.sl sz []) = ds)
    (h : AWP Z N c Q (({ st with bx := (n, ds) :: st.bx } : St).addOwn (.b n off) sz)) : AWP Z N c Q st := by
  subst hds
  exact fun E G a w hr hE => h E G a w (hr.own0 hb hc) hE
theorem al_own (n : Nm) (off sz : Nat) {cs ds : List C} (hb : st.box n = some cs) (hc : cs[off]? = some (.o (.slice none 0 0))) (hds : cs.set off (.sl sz []) = ds)
    (h : AL Z N ops rest K (({ st with bx := (n, ds) :: st.bx } : St).addOwn (.b n off) sz)) : AL Z N ops rest K st := by
  subst hds
  exact fun E G a w hr hE K' hK => h E G a w (hr.own0 hb hc) hE K' hK
end
end Go.Abs
/- A Builder's String. -/
set_option linter.unusedVariables false
set_option linter.unusedSimpArgs false
namespace Go.Abs
variable {Z : Pg}
theorem cell?_freeze (w : World) (p a : Addr) (n : Nat) : (w.freeze p n).cell? a = w.cell? a := by
  unfold World.freeze
  split
  · rfl
  · simp only [World.cell?, Array.getElem?_modify]
    by_cases h : p.block = a.block
    · rw [if_pos h]
      cases hh : w.heap[a.block]? with
      | none => rfl
      | some o => cases o <;> rfl
    · rw [if_neg h]
theorem shape?_freeze (w : World) (p : Addr) (n b : Nat) : (w.freeze p n).shape? b = w.shape? b := by
  unfold World.freeze
  split
  · rfl
  · simp only [World.shape?, Array.getElem?_modify]
    by_cases h : p.block = b
    · rw [if_pos h]
      cases hh : w.heap[b]? with
      | none => rfl
      | some o => cases o <;> rfl
    · rw [if_neg h]
theorem frozen?_freeze_other (w : World) (p a : Addr) (n : Nat) (h : p.block ≠ a.block) : (w.freeze p n).frozen? a = w.frozen? a := by
  unfold World.freeze
  split
  · rfl
  · simp only [World.frozen?, Array.getElem?_modify, if_neg h]
theorem heap_freeze_other (w : World) (p : Addr) (n b : Nat) (h : p.block ≠ b) : (w.freeze p n).heap[b]? = w.heap[b]? := by
  unfold World.freeze
  split
  · rfl
  · simp only [Array.getElem?_modify, if_neg h]
theorem mark_freeze_other (w : World) (p : Addr) (n b : Nat) (h : p.block ≠ b) : markOf (w.freeze p n) b = markOf w b := by
  unfold markOf
  rw [heap_freeze_other w p n b h]
theorem front_freeze {w : World} {b k n : Nat} (h : Front (markOf w b) k) (hn : n ≤ k) : Front (markOf (w.freeze ⟨b, 0, none⟩ n) b) k := by
  unfold World.freeze
  split
  · exact h
  · rename_i hne
    unfold markOf at h ⊢
    dsimp only
    rw [Array.getElem?_modify, if_pos rfl]
    cases hh : w.heap[b]? with
    | none => intro lo hi e; simp at e
    | some ob =>
      rw [hh] at h
      cases ob with
      | cells c e fr =>
        obtain ⟨lo, hi⟩ := fr
        have := h lo hi rfl
        intro lo' hi' e'
        simp only [Option.map_some, Option.some.injEq] at e'
        split at e'
        · simp at e'; omega
        · rename_i hlh
          have hlh' : lo ≠ hi := by simpa using hlh
          simp at e'; omega
      | _ => intro lo hi e; simp at e
theorem freeze_size (w : World) (p : Addr) (n : Nat) : (w.freeze p n).heap.size = w.heap.size := by
  unfold World.freeze; split <;> simp
theorem freeze_os (w : World) (p : Addr) (n : Nat) : (w.freeze p n).os = w.os ∧ (w.freeze p n).tape = w.tape ∧ (w.freeze p n).output = w.output := by
  unfold World.freeze; split <;> exact ⟨rfl, rfl, rfl⟩
/-- The first cells of a row that 'p' owns behind them are frozen: nothing else turns. -/
theorem Rel.frz0 {E : Env} {G : Gh} {st : St} {a : Act} {w : World} (h : Rel E G st a w) {p : Pl} {sz blk len cap : Nat} {es : List (List C)} (hsz : sz ≠ 0) (ho : OwnAt E.B w G p sz (.slice (some ⟨blk, 0, none⟩) len cap))
    (hc : CRep w G.S (.sl sz es) (.slice (some ⟨blk, 0, none⟩) len cap)) (n : Nat) (hn : n ≤ len * sz) : Rel E G st a (w.freeze ⟨blk, 0, none⟩ n) := by
  rcases ho with ho | ⟨blk2, len2, cap2, e, hv, ⟨hlc, hB, _⟩, ⟨hsh, hfr⟩, hsp⟩
  · simp at ho
  · simp only [Value.slice.injEq, Option.some.injEq, Addr.mk.injEq] at hv
    obtain ⟨⟨rfl, _⟩, rfl, rfl⟩ := hv
    have himm : ∀ o, o < len * sz → G.W blk o = .imm := by
      intro o ho
      obtain ⟨hl, _, _, hrow⟩ := hc.elem
      have hi : o / sz < len := Nat.div_lt_of_lt_mul (by rw [Nat.mul_comm]; exact ho)
      have hj : o % sz < sz := Nat.mod_lt _ (by omega)
      obtain ⟨h1, h2⟩ := hrow (o / sz) _ (List.getElem?_eq_getElem (by omega))
      obtain ⟨h3, _⟩ := h2 (o % sz) _ (List.getElem?_eq_getElem (by omega))
      have : 0 + o / sz * sz + o % sz = o := by rw [Nat.zero_add, Nat.mul_comm]; exact Nat.div_add_mod o sz
      rw [this] at h3
      exact h3
    have hout : ∀ o, cap * sz ≤ o → w.cell? ⟨blk, o, none⟩ = none := by
      intro o ho
      unfold World.shape? at hsh
      unfold World.cell?
      split at hsh
      · rename_i c e3 fz hheap
        simp only [Option.some.injEq, Prod.mk.injEq] at hsh
        simp only [hheap]
        simp; omega
      · simp at hsh
    have hlcs : len * sz ≤ cap * sz := Nat.mul_le_mul_right _ hlc
    have hnobox : ∀ o m, G.W blk o = .box m → w.cell? ⟨blk, o, none⟩ = none := by
      intro o m hm
      rcases Nat.lt_or_ge o (len * sz) with h1 | h1
      · rw [himm o h1] at hm; simp at hm
      · rcases Nat.lt_or_ge o (cap * sz) with h2 | h2
        · rw [(hsp o h1 h2).1] at hm; simp at hm
        · exact hout o h2
    have hcell : ∀ b o, (w.freeze ⟨blk, 0, none⟩ n).cell? ⟨b, o, none⟩ = w.cell? ⟨b, o, none⟩ := fun b o => cell?_freeze w _ _ n
    constructor
    · exact h.df
    · intro k g x hk
      obtain ⟨u, hu, h1, h2⟩ := h.tm k g x hk
      exact ⟨u, hu, fun hg => (h1 hg).mono (fun _ _ hs => hs) (fun b o _ => hcell b o) (fun _ _ => rfl), h2⟩
    · intro m cs hm j c hj
      obtain ⟨q1, q2, u, q3, q4⟩ := h.bx m cs hm j c hj
      have hne : blk ≠ (G.A m).1 := by
        intro e
        rw [← e] at q1 q3
        rw [hnobox _ _ q1] at q3; simp at q3
      refine ⟨q1, ?_, u, by rw [hcell]; exact q3, q4.mono (fun _ _ hs => hs) fun b o _ => hcell b o⟩
      rw [frozen_of (mark_freeze_other w _ n _ hne)]; exact q2
    · intro q s hq
      obtain ⟨v, hv, hown⟩ := h.ow q s hq
      refine ⟨v, ?_, ?_⟩
      · cases q with
        | t k => exact hv
        | b m off => exact ⟨by rw [hcell]; exact hv.1, hv.2⟩
      · rcases hown with hown | ⟨b2, l2, c2, e2, q1, q2, q3, q4⟩
        · exact .inl hown
        · refine .inr ⟨b2, l2, c2, e2, q1, q2, ⟨by rw [shape?_freeze]; exact q3.1, ?_⟩, fun o h1 h2 => ?_⟩
          · by_cases hb : blk = b2
            · subst hb
              refine front_freeze q3.2 ?_
              have hcc : cap * sz = c2 * s := by
                have := q3.1
                rw [hsh] at this
                simp at this; exact this.2
              have hl2 : l2 * s ≤ c2 * s := Nat.mul_le_mul_right _ q2.1
              rcases Nat.lt_or_ge (l2 * s) (len * sz) with hlt | hge
              · have hw := (q4 (l2 * s) (Nat.le_refl _) (by omega)).1
                rw [himm _ hlt] at hw; simp at hw
              · omega
            · rw [mark_freeze_other _ _ _ _ hb]; exact q3.2
          · obtain ⟨q5, q6⟩ := q4 o h1 h2
            refine ⟨q5, ?_⟩
            by_cases hb : blk = b2
            · subst hb
              have hge : len * sz ≤ o := by
                rcases Nat.lt_or_ge o (len * sz) with hlt | hge
                · rw [himm _ hlt] at q5; simp at q5
                · exact hge
              exact front_frozen (front_freeze hfr hn) o hge
            · rw [frozen_of (mark_freeze_other w _ n _ hb)]; exact q6
    · intro b o hb; rw [freeze_size]; exact h.wf b o hb
    · exact h.olB
    · exact h.olO
    · exact h.nt
    · exact h.oA
    · exact h.im
    · exact h.im'
    · obtain ⟨f1, f2, f3⟩ := freeze_os w ⟨blk, 0, none⟩ n
      refine h.fr.trans ⟨f1, f2, f3, by rw [freeze_size]; exact Nat.le_refl _, fun b hb _ => heap_freeze_other w _ n b (by show blk ≠ b; omega), fun b o _ _ => hcell b o, fun b hb => mark_freeze_other w _ n b (by show blk ≠ b; omega), fun b _ => shape?_freeze w _ n b⟩
    · exact h.hB
    · exact h.lo
    · intro t k cs hb hne
      obtain ⟨q1, q2, x, q3, q4⟩ := h.bd t k cs hb hne
      exact ⟨q1, by rw [shape?_freeze]; exact q2, x, by rw [hcell]; exact q3, q4⟩
    · intro x hx
      obtain ⟨q1, q2, q3⟩ := h.mp x hx
      refine ⟨q1.of_same (heap_freeze_other w _ n _ ?_), q2, q3⟩
      intro e
      obtain ⟨ms, clock, r1, _⟩ := q1
      have e : blk = x.1 := e
      rw [← e] at r1
      simp [World.shape?, r1] at hsh
section
variable {N : Nat} {st : St} {ops : Array Oper} {rest : List Oper} {K : St → Prop} {o : Oper} {d k : Nat} {fo x : Operand} {ts : Array TypeId} {m : List UInt8}
theorem al_bst (B : BdSys Z) (ho : o.op = .call { callee := .value fo, args := #[x], argTypes := ts }) (hg : gateOf ops st o = some true) (hd : o.dst = some d) (hN : Nat.ble (d + 1) N = true)
    (hf : lk Z.T st 0 fo = some (true, .fn B.fS [])) (ha : lkAll Z.T st ts.toList [x] = some (true, [.v (.ptr (.bd B.tN k) 0)]))
    (hb : st.box (.bd B.tN k) = some [.bl, .sl 1 (bytesR m)]) (hw : st.own (.b (.bd B.tN k) 1) = some 1)
    (h : AL Z N ops rest K (st.put d (true, .v (.c (.s m))))) : AL Z N ops (o :: rest) K st := by
  refine al_op1 (fun E G a w hr hE K' Q' hK => ?_) h
  have hdN : d < E.nt := by rw [hE.nt]; exact Nat.le_of_ble_eq_true hN
  rw [wanted_gate hr hg]
  simp only [if_true]
  obtain ⟨cvs, hfv, hcv⟩ := lk_rep hr hf rfl
  have hcv0 : cvs = [] := by cases cvs with
    | nil => rfl
    | cons _ _ => exact hcv.elim
  subst hcv0
  obtain ⟨hx, _⟩ := lkAll_rep hr ha rfl
  have hx1 : a.eval x = _ := hx
  obtain ⟨q1, q2, x0, q3, _⟩ := hr.bd _ _ _ hb (by simp)
  rw [q1] at hx1
  have hargs : ((#[x] : Array Operand).toList.map a.eval ++ []).toArray = #[.pointer (some ⟨(G.A (.bd B.tN k)).1, 0, none⟩)] := by
    simp [hx1]
  unfold Oper.wp
  rw [run_call ho hfv B.enS, Oper.upon_enter, hargs]
  obtain ⟨v', hv', hown⟩ := hr.ow _ _ hw
  obtain ⟨r1, r2, u, r3, r4⟩ := hr.bx _ _ hb 1 _ rfl
  have h2 := hv'.1
  rw [q1, Nat.zero_add] at h2 r3
  obtain rfl : u = v' := by rw [r3] at h2; exact Option.some.inj h2
  have hlm := r4.lenMax
  rw [bytesR_len] at hlm
  have hbd := hr.drew
  have key : ∃ w2, Calls Z.P B.fS #[.pointer (some ⟨(G.A (.bd B.tN k)).1, 0, none⟩)] w (fun e w' => e = .returned (.string ⟨m.toArray⟩) ∧ w' = w2) ∧ Rel E G st a w2 := by
    have hbd : Rel E G st a w.drew := hr.drew
    rcases hown with rfl | ⟨blk, len, cap, e, rfl, h5, h6, h7⟩
    · have hm0 : m = [] := by
        cases m with
        | nil => rfl
        | cons c l => have := r4; cases this with
          | _ => simp_all [bytesR]
      subst hm0
      exact ⟨w.drew, B.st _ w w.drew w.drew none 0 0 (.pointer none) .empty r3 (Lib.run_unsafeSliceData_nil _ _ _ _ _) r3 (Lib.run_unsafeString_none _ _ _ _ _), hbd⟩
    · have hml : m.length = len := by have := r4.elem.1; rw [bytesR_len] at this; exact this
      have heU : e = B.tU := by rw [h5.2.2 B.tN k 1 rfl]; exact B.hN2
      subst heU
      by_cases hm0 : m = []
      · subst hm0
        simp only [List.length_nil] at hml
        subst hml
        by_cases hc0 : cap = 0
        · subst hc0
          have hz := Lib.run_unsafeSliceData_zero (P := Z.P) w.drew #[B.tS] B.tPU B.tU B.hpu ⟨blk, 0, none⟩ 0 _ h6.1
          refine ⟨_, B.st _ w _ _ (some ⟨blk, 0, none⟩) 0 0 _ .empty r3 hz ?_ (Lib.run_unsafeString_none _ _ _ _ _), hbd.grow (fr_alloc w.drew _) (fun _ _ _ => rfl) (SameA.refl _ _) (fun b o hb => by have := hbd.wf b o hb; simp at this ⊢; omega)⟩
          rw [World.cell?_alloc_lt _ _ _ (by
            have := World.block_lt_of_cell? (a := ⟨(G.A (.bd B.tN k)).1, 1, none⟩) w r3
            exact this)]
          exact r3
        · exact ⟨w.drew, B.st _ w w.drew w.drew (some ⟨blk, 0, none⟩) 0 cap _ .empty r3 (Lib.run_unsafeSliceData_row _ _ _ _ _ _ hc0) r3 (Lib.run_unsafeString_none _ _ _ _ _), hbd⟩
      · have hne : m.length ≠ 0 := by simpa using hm0
        have hc0 : cap ≠ 0 := by omega
        subst hml
        refine ⟨w.drew.freeze ⟨blk, 0, none⟩ m.length, B.st _ w w.drew _ (some ⟨blk, 0, none⟩) m.length cap _ ⟨m.toArray⟩ r3 (Lib.run_unsafeSliceData_row _ _ _ _ _ _ hc0) r3 (Lib.run_unsafeString_row (P := Z.P) w.drew _ _ _ B.tU B.hpu B.hcells blk (cap * 1) h6.1 m hm0 (by omega) hlm ?_), ?_⟩
        · intro j y hj
          obtain ⟨_, hrow⟩ := r4.elem.2.2.2 j [.i .u8 (y.toNat : Int)] (by simp [bytesR, hj])
          obtain ⟨_, z, s1, s2⟩ := hrow 0 _ rfl
          cases s2
          rw [addr_add]
          simpa using s1
        · exact hbd.frz0 (p := .b (.bd B.tN k) 1) (sz := 1) (by omega) (.inr ⟨blk, m.length, cap, B.tU, rfl, h5, h6, h7⟩) (CRep.mono (w := w) (w' := w.drew) (S := G.S) (S' := G.S) (fun _ _ h => h) (fun _ _ _ => rfl) r4) m.length (by omega)
  obtain ⟨w2, hcall, hrel⟩ := key
  refine hcall.mono ?_
  rintro e w' ⟨rfl, rfl⟩
  dsimp only
  rw [hd] at hK ⊢
  exact hK G _ _ (hrel.put hdN (g := true) (fun _ => CRep.s m hlm) (fun hf => by simp at hf))
end
end Go.Abs
/- The end of functions without results; calls that are handed one whole box. -/
set_option linter.unusedVariables false
set_option linter.unusedSimpArgs false
namespace Go.Abs
theorem retn_ok {T : List (Option TyI)} {rs : List ResultVar} {res x : X} {bs' : List (List C)} {s : St} (h : resX T s rs = some x) (hx : x = res) (hb : subB s (boxesB 0 bs')) : retS T rs res none bs' .normal s :=
  ret_ok (rs := rs) h hx hb
theorem sx {α : Type} {o : Option α} {e : α} (h : o = some e) : ∃ x, o = some x ∧ x = e := ⟨e, h, rfl⟩
theorem gU {p : Prop} {b : Bool} (_ : p) : b = b := rfl
theorem tR {next : St → Prop} {Q : Exit → St → Prop} {s : St} (h : Q .ret s) : thenS next Q .ret s := h
theorem bR {id : Nat} {Q : Exit → St → Prop} {s : St} (h : Q .ret s) : blockS id Q .ret s := h
theorem ak {e : Eff} {s : St} {p : Pl} {sz : Nat} (hk : (!(e.drop.any (Pl.beq p)) && e.gain.isNone) = true) (h : s.own p = some sz) : (ap e s).own p = some sz := by
  rw [Bool.and_eq_true] at hk
  obtain ⟨h1, h2⟩ := hk
  have hg : e.gain = none := by simpa using h2
  rw [ap_own, Eff.go, hg]
  dsimp only
  have : ¬ p ∈ e.drop := by
    intro hp
    have : e.drop.any (Pl.beq p) = true := List.any_eq_true.2 ⟨p, hp, Pl.beq_self p⟩
    rw [this] at h1; simp at h1
  rw [if_neg this]
  exact h
theorem pk {st : St} {k : Nat} {e : Bool × X} {p : Pl} {sz : Nat} (hk : Pl.beq p (.t k) = false) (h : st.own p = some sz) : (st.put k e).own p = some sz := by
  rw [St.put_own, if_neg (by intro q; rw [q, Pl.beq_self] at hk; simp at hk)]; exact h
theorem sk {st : St} {n : Nm} {cs : List C} {off len : Nat} {p : Pl} {sz : Nat} (hk : Pl.inCells n off len p = false) (h : st.own p = some sz) : (st.store n cs off len).own p = some sz := by
  rw [St.store_own, hk]; exact h
theorem setAt_whole {cs ds : List C} (h : ds.length = cs.length) : setAt cs 0 ds = ds := by
  apply List.ext_getElem?
  intro j
  rw [setAt_get cs ds 0 j (by omega)]
  split
  · rfl
  · rename_i hj
    rw [List.getElem?_eq_none (by omega), List.getElem?_eq_none (by omega)]
theorem old_whole {n : Nm} {cs ds : List C} (h : ds.length = cs.length) : (⟨n, 0, cs, ds⟩ : Pass).old = cs := by
  simp [Pass.old, h]
section
variable {Z : Pg} {N : Nat} {ops : Array Oper} {K : St → Prop} {st : St} {o : Oper} {d : Nat}
theorem al_callB1 {rest : List Oper} {fo : Operand} {args : Array Operand} {ts : Array TypeId} {f : FuncId} {xs cxs : List X} {res : X} (n : Nm) {cs ds : List C}
    (ho : o.op = .call { callee := .value fo, args := args, argTypes := ts }) (hg : gateOf ops st o = some true)
    (hf : lk Z.T st 0 fo = some (true, .fn f [])) (ha : lkAll Z.T st ts.toList args.toList = some (true, xs)) (hb : st.box n = some cs) (hd : o.dst = some d)
    (hs : Ctr Z f cxs [cs] res none [ds]) (hl : ds.length = cs.length) (htr : cxs.map (X.tr [⟨n, 0, cs, ds⟩]) = xs) (htrok : trAll [⟨n, 0, cs, ds⟩] cxs = true) (hnb : n.isBd = false) (hc : res.clean = true) (hN : Nat.ble (d + 1) N = true)
    (h : AL Z N ops rest K ((st.store n ds 0 ds.length).put d (true, res))) : AL Z N ops (o :: rest) K st := by
  refine al_callB [⟨n, 0, cs, ds⟩] ho hg hf ha htr htrok (by intro p hp; simp at hp; subst hp; exact hb) ?_ ?_ hc hd hN ?_
  · simp [passB, hl, hnb]
  · simpa [old_whole hl] using hs
  · simpa [St.stores, setAt_whole hl] using h
theorem dr_callB1 {rest : List Oper} {B : List Nat} {s0 : St} {k : Nat} {acc : List (Nat × Eff × Foot)} {Q : St → Prop} {fo : Operand} {args : Array Operand} {ts : Array TypeId} {f : FuncId} {xs cxs : List X} {res : X} (n : Nm) {cs ds : List C} (hk : ops[k]? = some o)
    (ho : o.op = .call { callee := .value fo, args := args, argTypes := ts }) (hg : gateOf ops (rs (foot ops o [n] []) st) o = some true)
    (hf : lk Z.T (rs (foot ops o [n] []) st) 0 fo = some (true, .fn f [])) (ha : lkAll Z.T (rs (foot ops o [n] []) st) ts.toList args.toList = some (true, xs)) (hb : (rs (foot ops o [n] []) st).box n = some cs) (hd : o.dst = some d)
    (hs : Ctr Z f cxs [cs] res none [ds]) (hl : ds.length = cs.length) (htr : cxs.map (X.tr [⟨n, 0, cs, ds⟩]) = xs) (htrok : trAll [⟨n, 0, cs, ds⟩] cxs = true) (hnb : n.isBd = false) (hc : res.clean = true) (hN : Nat.ble (d + 1) N = true)
    (hr : Draw Z N s0 ops B (k + 1) rest (acc ++ [(k, { d := some (d, true, res), b := some (n, ds), drop := .t d :: cellPls n 0 ds.length }, foot ops o [n] [])]) (ap { d := some (d, true, res), b := some (n, ds), drop := .t d :: cellPls n 0 ds.length } st) Q) :
    Draw Z N s0 ops B k (o :: rest) acc st Q := by
  refine dr_callB ⟨n, 0, cs, ds⟩ hk ho hg hf ha htr htrok hb (by simp [hl]) ?_ hc hd hN ?_ hnb
  · simpa [old_whole hl] using hs
  · simpa [setAt_whole hl] using hr
end
end Go.Abs
