/- A region that draws its order. -/
import Derived.Test.YtginljdgdllhfaaAbs11
import Derived.Orders
set_option linter.unusedVariables false
set_option linter.unusedSimpArgs false
namespace Go.Abs
variable {Z : Pg}

/-- What an operation writes. -/
structure Eff where
  d : Option (Nat × Bool × X) := none
  b : Option (Nm × List C) := none
  b2 : Option (Nm × List C) := none
  drop : List Pl := []
  gain : Option (Pl × Nat) := none
/-- What it reads. -/
structure Foot where
  rt : List Nat := []
  rb : List Nm := []
  ro : List Pl := []
  rn : List (Nm × Bool) := []

def Eff.gt (e : Eff) (k : Nat) : Option (Bool × X) := match e.d with
  | some (d, x) => if d = k then some x else none
  | none => none
def Eff.gb (e : Eff) (n : Nm) : Option (List C) := match e.b with
  | some (m, cs) => if m = n then some cs else (match e.b2 with | some (m2, ds) => if m2 = n then some ds else none | none => none)
  | none => none
def Eff.go (e : Eff) (p : Pl) : Option (Option Nat) := match e.gain with
  | some (q, sz) => if q = p then some (some sz) else if p ∈ e.drop then some none else none
  | none => if p ∈ e.drop then some none else none
def Eff.keeps (e : Eff) (p : Pl) : Bool := !(e.drop.any (Pl.beq p)) && (match e.gain with | some (q, _) => !Pl.beq p q | none => true)

def ap (e : Eff) (s : St) : St :=
  { t := (match e.d with | some (d, x) => (d, x) :: s.t | none => s.t),
    bx := (match e.b with | some (n, cs) => (n, cs) :: (match e.b2 with | some (m, ds) => (m, ds) :: s.bx | none => s.bx) | none => s.bx),
    ow := (match e.gain with | some (p, sz) => (p, sz) :: s.ow.filter (fun q => e.keeps q.1) | none => s.ow.filter (fun q => e.keeps q.1)) }

theorem ap_get (e : Eff) (s : St) (k : Nat) : (ap e s).get k = match e.gt k with | some x => some x | none => s.get k := by
  unfold ap St.get Eff.gt
  cases hd : e.d with
  | none => rfl
  | some dx =>
    obtain ⟨d, x⟩ := dx
    dsimp only
    rw [getT_cons]
    by_cases h : d = k
    · simp [h]
    · simp [h]
theorem ap_box (e : Eff) (s : St) (n : Nm) : (ap e s).box n = match e.gb n with | some x => some x | none => s.box n := by
  unfold ap St.box Eff.gb
  cases hd : e.b with
  | none => rfl
  | some dx =>
    obtain ⟨d, x⟩ := dx
    dsimp only
    rw [getB_cons]
    by_cases h : d = n
    · simp [h]
    · rw [if_neg h, if_neg h]
      cases hd2 : e.b2 with
      | none => rfl
      | some dy =>
        obtain ⟨d2, y⟩ := dy
        dsimp only
        rw [getB_cons]
        by_cases h2 : d2 = n
        · simp [h2]
        · simp [h2]
theorem any_beq {l : List Pl} {p : Pl} : l.any (Pl.beq p) = true ↔ p ∈ l := by
  rw [List.any_eq_true]
  constructor
  · rintro ⟨q, hq, h⟩; rw [Pl.beq_iff] at h; subst h; exact hq
  · intro h; exact ⟨p, h, Pl.beq_self p⟩
theorem ap_own (e : Eff) (s : St) (p : Pl) : (ap e s).own p = match e.go p with | some x => x | none => s.own p := by
  unfold ap St.own Eff.go
  cases hg : e.gain with
  | none =>
    dsimp only
    rw [getO_filter e.keeps]
    unfold Eff.keeps
    rw [hg]
    by_cases h : p ∈ e.drop
    · simp [h, any_beq.2 h]
    · have : e.drop.any (Pl.beq p) = false := by
        cases hb : e.drop.any (Pl.beq p) with
        | false => rfl
        | true => exact absurd (any_beq.1 hb) h
      simp [h, this]
  | some g =>
    obtain ⟨q, sz⟩ := g
    dsimp only
    rw [getO_cons]
    by_cases hq : q = p
    · simp [hq]
    · rw [if_neg hq, if_neg hq, getO_filter e.keeps]
      unfold Eff.keeps
      rw [hg]
      have hpq : Pl.beq p q = false := Pl.beq_ne fun e => hq e.symm
      by_cases h : p ∈ e.drop
      · simp [h, any_beq.2 h]
      · have : e.drop.any (Pl.beq p) = false := by
          cases hb : e.drop.any (Pl.beq p) with
          | false => rfl
          | true => exact absurd (any_beq.1 hb) h
        simp [h, this, hpq]

structure Eqv (s s' : St) : Prop where
  t : ∀ k, s'.get k = s.get k
  b : ∀ n, s'.box n = s.box n
  o : ∀ p, s'.own p = s.own p
theorem Eqv.refl (s : St) : Eqv s s := ⟨fun _ => rfl, fun _ => rfl, fun _ => rfl⟩
theorem Eqv.trans {a b c : St} (h : Eqv a b) (k : Eqv b c) : Eqv a c := ⟨fun x => (k.t x).trans (h.t x), fun x => (k.b x).trans (h.b x), fun x => (k.o x).trans (h.o x)⟩
theorem Eqv.symm {a b : St} (h : Eqv a b) : Eqv b a := ⟨fun x => (h.t x).symm, fun x => (h.b x).symm, fun x => (h.o x).symm⟩
theorem Eqv.sub {a b : St} (h : Eqv a b) : Sub a b := ⟨fun k e x => (h.t k).trans x, fun k e x => (h.b k).trans x, fun k e x => (h.o k).trans x⟩
theorem Eqv.ap {a b : St} (h : Eqv a b) (e : Eff) : Eqv (ap e a) (ap e b) :=
  ⟨fun k => by rw [ap_get, ap_get, h.t], fun k => by rw [ap_box, ap_box, h.b], fun k => by rw [ap_own, ap_own, h.o]⟩

structure Agree (R : Foot) (s s2 : St) : Prop where
  t : ∀ k ∈ R.rt, s2.get k = s.get k
  b : ∀ n ∈ R.rb, s2.box n = s.box n
  o : ∀ p ∈ R.ro, s2.own p = s.own p
theorem Agree.refl (R : Foot) (s : St) : Agree R s s := ⟨fun _ _ => rfl, fun _ _ => rfl, fun _ _ => rfl⟩
theorem Agree.trans {R : Foot} {a b c : St} (h : Agree R a b) (k : Agree R b c) : Agree R a c :=
  ⟨fun x hx => (k.t x hx).trans (h.t x hx), fun x hx => (k.b x hx).trans (h.b x hx), fun x hx => (k.o x hx).trans (h.o x hx)⟩
theorem Eqv.agree {a b : St} (h : Eqv a b) (R : Foot) : Agree R a b := ⟨fun x _ => h.t x, fun x _ => h.b x, fun x _ => h.o x⟩

/-- The operation does 'e' wherever what it reads is as in 'st'. -/
def LS (Z : Pg) (N : Nat) (ops : Array Oper) (o : Oper) (e : Eff) (R : Foot) (st : St) : Prop := ∀ s2, Agree R st s2 → (∀ n ∈ R.rn, FreshG s2 n) → Op1 Z N ops o s2 (ap e s2)
theorem LS.agree {N : Nat} {ops : Array Oper} {o : Oper} {e : Eff} {R : Foot} {s s' : St} (h : LS Z N ops o e R s) (ha : Agree R s s') : LS Z N ops o e R s' :=
  fun s2 h2 hf => h s2 (ha.trans h2) hf

/-! ### Apartness -/
def Eff.wt (e : Eff) : List Nat := match e.d with | some (d, _) => [d] | none => []
def Eff.wb (e : Eff) : List Nm := match e.b with | some (n, _) => n :: (match e.b2 with | some (m, _) => [m] | none => []) | none => []
def Eff.wo (e : Eff) : List Pl := match e.gain with | some (p, _) => p :: e.drop | none => e.drop
def disj {α : Type} (eq : α → α → Bool) (a b : List α) : Bool := a.all fun x => b.all fun y => !eq x y
theorem disj_ne {α : Type} {eq : α → α → Bool} (heq : ∀ x, eq x x = true) {a b : List α} (h : disj eq a b = true) {x : α} (ha : x ∈ a) (hb : x ∈ b) : False := by
  have := List.all_eq_true.1 (List.all_eq_true.1 h x ha) x hb
  rw [heq x] at this
  simp at this
/-- Neither writes what the other reads or writes. -/
def indep (e : Eff) (R : Foot) (e' : Eff) (R' : Foot) : Bool :=
  disj Nat.beq e.wt R'.rt && disj Nat.beq e'.wt R.rt && disj Nat.beq e.wt e'.wt && disj Nm.beq e.wb R'.rb && disj Nm.beq e'.wb R.rb && disj Nm.beq e.wb e'.wb &&
  disj Pl.beq e.wo R'.ro && disj Pl.beq e'.wo R.ro && disj Pl.beq e.wo e'.wo

theorem gt_none {e : Eff} {k : Nat} (h : k ∉ e.wt) : e.gt k = none := by
  unfold Eff.gt Eff.wt at *
  cases hd : e.d with
  | none => rfl
  | some dx =>
    obtain ⟨d, x⟩ := dx
    rw [hd] at h
    simp at h
    dsimp only
    rw [if_neg (fun e => h e.symm)]
theorem gb_none {e : Eff} {k : Nm} (h : k ∉ e.wb) : e.gb k = none := by
  unfold Eff.gb Eff.wb at *
  cases hd : e.b with
  | none => rfl
  | some dx =>
    obtain ⟨d, x⟩ := dx
    rw [hd] at h
    simp only [List.mem_cons, not_or] at h
    dsimp only
    rw [if_neg (fun e => h.1 e.symm)]
    cases hd2 : e.b2 with
    | none => rfl
    | some dy =>
      obtain ⟨d2, y⟩ := dy
      rw [hd2] at h
      simp only [List.mem_singleton] at h
      dsimp only
      rw [if_neg (fun e => h.2 e.symm)]
theorem go_none {e : Eff} {k : Pl} (h : k ∉ e.wo) : e.go k = none := by
  unfold Eff.go Eff.wo at *
  cases hd : e.gain with
  | none => rw [hd] at h; dsimp only at h ⊢; rw [if_neg h]
  | some dx =>
    obtain ⟨d, x⟩ := dx
    rw [hd] at h
    simp only [List.mem_cons, not_or] at h
    dsimp only
    rw [if_neg (fun e => h.1 e.symm), if_neg h.2]

structure Apart (e : Eff) (R : Foot) (e' : Eff) (R' : Foot) : Prop where
  a1 : ∀ k, k ∈ e.wt → k ∈ R'.rt → False
  a2 : ∀ k, k ∈ e'.wt → k ∈ R.rt → False
  a3 : ∀ k, k ∈ e.wt → k ∈ e'.wt → False
  b1 : ∀ k, k ∈ e.wb → k ∈ R'.rb → False
  b2 : ∀ k, k ∈ e'.wb → k ∈ R.rb → False
  b3 : ∀ k, k ∈ e.wb → k ∈ e'.wb → False
  o1 : ∀ k, k ∈ e.wo → k ∈ R'.ro → False
  o2 : ∀ k, k ∈ e'.wo → k ∈ R.ro → False
  o3 : ∀ k, k ∈ e.wo → k ∈ e'.wo → False
theorem Apart.of {e : Eff} {R : Foot} {e' : Eff} {R' : Foot} (h : indep e R e' R' = true) : Apart e R e' R' := by
  unfold indep at h
  simp only [Bool.and_eq_true] at h
  obtain ⟨⟨⟨⟨⟨⟨⟨⟨h1, h2⟩, h3⟩, h4⟩, h5⟩, h6⟩, h7⟩, h8⟩, h9⟩ := h
  have hn : ∀ x : Nat, Nat.beq x x = true := fun x => by simp
  exact ⟨fun _ => disj_ne hn h1, fun _ => disj_ne hn h2, fun _ => disj_ne hn h3, fun _ => disj_ne Nm.beq_self h4, fun _ => disj_ne Nm.beq_self h5, fun _ => disj_ne Nm.beq_self h6,
    fun _ => disj_ne Pl.beq_self h7, fun _ => disj_ne Pl.beq_self h8, fun _ => disj_ne Pl.beq_self h9⟩

theorem Apart.comm {e : Eff} {R : Foot} {e' : Eff} {R' : Foot} (h : Apart e R e' R') (s : St) : Eqv (ap e (ap e' s)) (ap e' (ap e s)) where
  t := fun k => by
    rw [ap_get, ap_get, ap_get, ap_get]
    by_cases hk : k ∈ e.wt
    · rw [gt_none (e := e') (fun hk' => h.a3 k hk hk')]
    · rw [gt_none (e := e) hk]
  b := fun k => by
    rw [ap_box, ap_box, ap_box, ap_box]
    by_cases hk : k ∈ e.wb
    · rw [gb_none (e := e') (fun hk' => h.b3 k hk hk')]
    · rw [gb_none (e := e) hk]
  o := fun k => by
    rw [ap_own, ap_own, ap_own, ap_own]
    by_cases hk : k ∈ e.wo
    · rw [go_none (e := e') (fun hk' => h.o3 k hk hk')]
    · rw [go_none (e := e) hk]
/-- What 'e' writes the other does not read. -/
theorem Apart.agree {e : Eff} {R : Foot} {e' : Eff} {R' : Foot} (h : Apart e R e' R') (s : St) : Agree R' s (ap e s) where
  t := fun k hk => by rw [ap_get, gt_none (fun hk' => h.a1 k hk' hk)]
  b := fun k hk => by rw [ap_box, gb_none (fun hk' => h.b1 k hk' hk)]
  o := fun k hk => by rw [ap_own, go_none (fun hk' => h.o1 k hk' hk)]
theorem Apart.agree' {e : Eff} {R : Foot} {e' : Eff} {R' : Foot} (h : Apart e R e' R') (s : St) : Agree R s (ap e' s) where
  t := fun k hk => by rw [ap_get, gt_none (fun hk' => h.a2 k hk' hk)]
  b := fun k hk => by rw [ap_box, gb_none (fun hk' => h.b2 k hk' hk)]
  o := fun k hk => by rw [ap_own, go_none (fun hk' => h.o2 k hk' hk)]

/-! ### The operations in the order of the text -/
abbrev Lnk := Nat × Eff × Foot
def Chain (Z : Pg) (N : Nat) (ops : Array Oper) : List Lnk → St → St → Prop
  | [], s, sf => Eqv s sf
  | l :: r, s, sf => (∃ o, ops[l.1]? = some o ∧ LS Z N ops o l.2.1 l.2.2 s) ∧ Chain Z N ops r (ap l.2.1 s) sf

theorem Chain.eqv {N : Nat} {ops : Array Oper} : ∀ {L : List Lnk} {s s' sf : St}, Chain Z N ops L s sf → Eqv s s' → Chain Z N ops L s' sf
  | [], s, s', sf, h, he => he.symm.trans h
  | l :: r, s, s', sf, h, he => by
    obtain ⟨⟨o, ho, hl⟩, hr⟩ := h
    exact ⟨⟨o, ho, hl.agree (he.agree _)⟩, Chain.eqv hr (he.ap _)⟩

theorem Chain.front {N : Nat} {ops : Array Oper} {l : Lnk} {q : List Lnk} : ∀ {p : List Lnk} {s sf : St}, Chain Z N ops (p ++ l :: q) s sf → (∀ m ∈ p, Apart m.2.1 m.2.2 l.2.1 l.2.2) →
    (∃ o, ops[l.1]? = some o ∧ LS Z N ops o l.2.1 l.2.2 s) ∧ Chain Z N ops (p ++ q) (ap l.2.1 s) sf
  | [], s, sf, h, _ => h
  | m :: p, s, sf, h, ha => by
    obtain ⟨⟨om, hom, hlm⟩, hr⟩ := h
    have hap := ha m (by simp)
    obtain ⟨⟨o, ho, hl⟩, hc⟩ := Chain.front hr fun x hx => ha x (by simp [hx])
    refine ⟨⟨o, ho, ?_⟩, ⟨om, hom, hlm.agree (hap.agree' s)⟩, ?_⟩
    · have hag := hap.agree s
      exact hl.agree ⟨fun k hk => (hag.t k hk).symm, fun k hk => (hag.b k hk).symm, fun k hk => (hag.o k hk).symm⟩
    · exact hc.eqv (hap.comm s).symm

/-! ### The certificate of the order -/
/-- 'B[j]' has the bit 'i' only if the edges put 'i' before 'j'. -/
def certAt (ops : Array Oper) (B : List Nat) (j : Nat) (o : Oper) : Bool :=
  (List.range ops.size).all fun i => !(B.getD j 0).testBit i || o.after.any fun e => Region.binds .any e && Nat.ble (e.on + 1) j && (Nat.beq e.on i || (B.getD e.on 0).testBit i)
def lowAt (j : Nat) (o : Oper) : Bool := o.after.all fun e => !Region.binds .any e || Nat.ble (e.on + 1) j
def certB (ops : Array Oper) (B : List Nat) : Bool := (List.range ops.size).all fun j => match ops[j]? with
  | some o => certAt ops B j o && lowAt j o
  | none => false
def pairsB (B : List Nat) : List Lnk → Bool
  | [] => true
  | l :: r => (r.all fun m => (B.getD m.1 0).testBit l.1 || indep l.2.1 l.2.2 m.2.1 m.2.2) && pairsB B r

/-- The effect writes the name. -/
def Eff.men (e : Eff) (n : Nm × Bool) : Bool := (n.2 && (match e.d with | some (_, _, x) => x.has n.1 | none => false)) || (match e.gain with | some (p, _) => Pl.inBox n.1 p | none => false)
theorem FreshG.ap {s : St} {n : Nm × Bool} (h : FreshG s n) {e : Eff} (he : e.men n = false) : FreshG (ap e s) n := by
  unfold Eff.men at he
  rw [Bool.or_eq_false_iff] at he
  refine ⟨fun hn2 k g x hk => ?_, fun p sz hp => ?_⟩
  · rw [hn2, Bool.true_and] at he
    rw [ap_get] at hk
    unfold Eff.gt at hk
    cases hd : e.d with
    | none => rw [hd] at hk; exact h.1 hn2 k g x hk
    | some dx =>
      obtain ⟨d, g', x'⟩ := dx
      rw [hd] at hk he
      dsimp only at hk
      by_cases hdk : d = k
      · rw [if_pos hdk] at hk
        simp only [Option.some.injEq, Prod.mk.injEq] at hk
        rw [← hk.2]; exact he.1
      · rw [if_neg hdk] at hk; exact h.1 hn2 k g x hk
  · rw [ap_own] at hp
    unfold Eff.go at hp
    cases hg : e.gain with
    | none =>
      rw [hg] at hp
      dsimp only at hp
      by_cases hm : p ∈ e.drop
      · rw [if_pos hm] at hp; simp at hp
      · rw [if_neg hm] at hp; exact h.2 p sz hp
    | some gx =>
      obtain ⟨q, z⟩ := gx
      rw [hg] at hp he
      dsimp only at hp
      by_cases hq : q = p
      · subst hq; exact he.2
      · rw [if_neg hq] at hp
        by_cases hm : p ∈ e.drop
        · rw [if_pos hm] at hp; simp at hp
        · rw [if_neg hm] at hp; exact h.2 p sz hp
/-- Names that are given anew are written by nobody who is not behind. -/
def nmB (B : List Nat) (L : List Lnk) : Bool := L.all fun l => L.all fun m => Nat.beq l.1 m.1 || (B.getD l.1 0).testBit m.1 || m.2.2.rn.all fun n => !l.2.1.men n
def DownClosed (ops : Array Oper) (listed : Array Bool) : Prop := ∀ (j : Nat) (o : Oper), ops[j]? = some o → listed.getD j true = true → ∀ e ∈ o.after, Region.binds .any e = true → listed.getD e.on false = true

theorem cert_at {ops : Array Oper} {B : List Nat} (h : certB ops B = true) {j : Nat} {o : Oper} (ho : ops[j]? = some o) : certAt ops B j o = true ∧ lowAt j o = true := by
  have hj : j < ops.size := lt_of_get ho
  have := List.all_eq_true.1 h j (List.mem_range.2 hj)
  rw [ho] at this
  simpa using this

theorem listed_lt {ops : Array Oper} {listed : Array Bool} (hsz : listed.size = ops.size) {i : Nat} (h : listed.getD i false = true) : i < ops.size := by
  rcases Nat.lt_or_ge i listed.size with h' | h'
  · omega
  · simp [Array.getD, Nat.not_lt.2 h'] at h

theorem cert_prec {ops : Array Oper} {B : List Nat} (h : certB ops B = true) {listed : Array Bool} (hsz : listed.size = ops.size) (hd : DownClosed ops listed) :
    ∀ (j : Nat) (o : Oper), ops[j]? = some o → (∀ e ∈ o.after, Region.binds .any e = true → listed.getD e.on false = true) → ∀ i, i < ops.size → (B.getD j 0).testBit i = true → listed.getD i false = true := by
  intro j
  induction j using Nat.strongRecOn with
  | _ j ih =>
    intro o ho hp i hi hb
    have hc := List.all_eq_true.1 (cert_at h ho).1 i (List.mem_range.2 hi)
    rw [hb] at hc
    simp only [Bool.not_true, Bool.false_or] at hc
    rw [Array.any_eq_true'] at hc
    obtain ⟨e, he, hc⟩ := hc
    simp only [Bool.and_eq_true, Bool.or_eq_true] at hc
    obtain ⟨⟨hbind, hlow⟩, hc⟩ := hc
    have hon := hp e he hbind
    rcases hc with hc | hc
    · rw [← Nat.eq_of_beq_eq_true hc]; exact hon
    · have hlt : e.on < j := Nat.le_of_ble_eq_true hlow
      have honl : e.on < ops.size := listed_lt hsz hon
      have ho2 : ops[e.on]? = some ops[e.on] := Array.getElem?_eq_getElem honl
      refine ih e.on hlt _ ho2 (hd e.on _ ho2 ?_) i hi hc
      have hl2 : e.on < listed.size := by omega
      simp only [Array.getD, hl2, dif_pos] at hon ⊢
      exact hon

theorem Rel.drew {E : Env} {G : Gh} {st : St} {a : Act} {w : World} (h : Rel E G st a w) : Rel E G st a { w with drawn := w.drawn + 1 } :=
  h.grow (w1 := { w with drawn := w.drawn + 1 }) ⟨rfl, rfl, rfl, Nat.le_refl _, fun _ _ _ => rfl, fun _ _ _ _ => rfl, fun _ _ _ => rfl, fun _ _ => rfl⟩ (fun _ _ _ => rfl) (SameA.refl _ _) h.wf

theorem mem_ready' {ops : Array Oper} {listed : Array Bool} {i : Nat} (h : i ∈ Region.ready .any ops listed) : ∃ o, ops[i]? = some o ∧ listed.getD i true = false ∧ ∀ e ∈ o.after, Region.binds .any e = true → listed.getD e.on false = true := by
  unfold Region.ready at h
  rw [List.mem_filter] at h
  obtain ⟨hr, h⟩ := h
  simp only [Bool.and_eq_true, Bool.not_eq_true'] at h
  obtain ⟨h1, h2⟩ := h
  have hi : i < ops.size := List.mem_range.1 hr
  refine ⟨ops[i], Array.getElem?_eq_getElem hi, h1, fun e he hb => ?_⟩
  rw [Array.getElem?_eq_getElem hi] at h2
  simp only [Option.map_some, Option.getD_some] at h2
  have := Array.all_eq_true'.1 h2 e he
  rw [hb] at this
  simpa using this

theorem region_any {N : Nat} {ops : Array Oper} {B : List Nat} {sf : St} {E : Env} (hcert : certB ops B = true) {K : Act → World → Prop} (hE : E.nt = N) (hK : ∀ G a w, Rel E G sf a w → K a w) :
    ∀ (fuel : Nat) (listed : Array Bool) (L : List Lnk) (s : St) (G : Gh) (a : Act) (w : World), listed.size = ops.size → L.length ≤ fuel → (∀ i, i < ops.size → (listed.getD i true = false ↔ ∃ l ∈ L, l.1 = i)) → DownClosed ops listed →
      L.Pairwise (fun x y => x.1 < y.1) → pairsB B L = true → nmB B L = true → (∀ l ∈ L, ∀ n ∈ l.2.2.rn, FreshG s n) → Chain Z N ops L s sf → Rel E G s a w → wpAny Z.P .any ops (Qn K) fuel listed a w := by
  have noReady : ∀ (listed : Array Bool), (∀ i, i < ops.size → (listed.getD i true = false ↔ ∃ l ∈ ([] : List Lnk), l.1 = i)) → Region.ready .any ops listed = [] := by
    intro listed hm
    cases hr : Region.ready .any ops listed with
    | nil => rfl
    | cons i r =>
      obtain ⟨o, ho, h1, _⟩ := mem_ready' (i := i) (by rw [hr]; simp)
      obtain ⟨l, hl, _⟩ := (hm i (lt_of_get ho)).1 h1
      simp at hl
  intro fuel
  induction fuel with
  | zero =>
    intro listed L s G a w hsz hL hm hd hp hpair hnm hF hch hr
    have : L = [] := List.eq_nil_of_length_eq_zero (by omega)
    subst this
    exact ⟨noReady listed hm, hK G a w (hr.sub (Eqv.sub (Eqv.symm hch)))⟩
  | succ fuel ih =>
    intro listed L s G a w hsz hL hm hd hp hpair hnm hF hch hr
    refine ⟨fun hnil => ?_, fun i hi => ?_⟩
    · have hL0 : L = [] := by
        cases L with
        | nil => rfl
        | cons l r =>
          exfalso
          have hl := (hm l.1 ?_).2 ⟨l, by simp, rfl⟩
          · have hlt : l.1 < ops.size := by
              obtain ⟨⟨o, ho, _⟩, _⟩ := hch
              exact lt_of_get ho
            have : l.1 ∈ Region.ready .any ops listed := by
              unfold Region.ready
              rw [List.mem_filter]
              refine ⟨List.mem_range.2 hlt, ?_⟩
              rw [hl]
              simp only [Bool.not_false, Bool.true_and]
              have ho : ops[l.1]? = some ops[l.1] := Array.getElem?_eq_getElem hlt
              rw [ho]
              simp only [Option.map_some, Option.getD_some]
              rw [Array.all_eq_true']
              intro e he
              have hlow := Array.all_eq_true'.1 (cert_at hcert ho).2 e he
              cases hb : Region.binds .any e with
              | false => simp
              | true =>
                rw [hb] at hlow
                simp only [Bool.not_true, Bool.false_or] at hlow
                have hlo : e.on < l.1 := Nat.le_of_ble_eq_true hlow
                simp only [Bool.not_true, Bool.false_or]
                have honl : e.on < listed.size := by omega
                cases hge : listed.getD e.on true with
                | true =>
                  simp only [Array.getD, honl, dif_pos] at hge ⊢
                  exact hge
                | false =>
                  obtain ⟨m, hm1, hm2⟩ := (hm e.on (by omega)).1 hge
                  exfalso
                  rcases List.mem_cons.1 hm1 with rfl | hm1
                  · omega
                  · have := (List.pairwise_cons.1 hp).1 m hm1
                    omega
            rw [hnil] at this
            simp at this
          · obtain ⟨⟨o, ho, _⟩, _⟩ := hch
            exact lt_of_get ho
      subst hL0
      exact hK G a w (hr.sub (Eqv.sub (Eqv.symm hch)))
    · obtain ⟨o, ho, hun, hpre⟩ := mem_ready' hi
      have hio : i < ops.size := lt_of_get ho
      obtain ⟨l, hl, hli⟩ := (hm i hio).1 hun
      obtain ⟨p, q, hpq⟩ := List.append_of_mem hl
      subst hpq
      have hapart : ∀ m ∈ p, Apart m.2.1 m.2.2 l.2.1 l.2.2 := by
        have hgen : ∀ (p : List Lnk), pairsB B (p ++ l :: q) = true → (∀ m ∈ p, listed.getD m.1 true = false ∧ m.1 < ops.size) → ∀ m ∈ p, Apart m.2.1 m.2.2 l.2.1 l.2.2 := by
          intro p
          induction p with
          | nil => intro _ _ m hm; simp at hm
          | cons x p ihp =>
            intro hb hun' m hmem
            simp only [List.cons_append, pairsB, Bool.and_eq_true] at hb
            rcases List.mem_cons.1 hmem with rfl | hmem
            · have := List.all_eq_true.1 hb.1 l (by simp)
              rw [Bool.or_eq_true] at this
              rcases this with h1 | h1
              · exfalso
                rw [hli] at h1
                obtain ⟨u1, u2⟩ := hun' m (by simp)
                have := cert_prec hcert hsz hd i o ho hpre m.1 u2 h1
                have hml : m.1 < listed.size := by omega
                simp only [Array.getD, hml, dif_pos] at this u1
                rw [u1] at this
                simp at this
              · exact Apart.of h1
            · exact ihp hb.2 (fun y hy => hun' y (by simp [hy])) m hmem
        refine hgen p hpair fun m hmem => ?_
        have hmo : m.1 < ops.size := by
          have : ∀ {L : List Lnk} {s sf : St}, Chain Z N ops L s sf → ∀ m ∈ L, m.1 < ops.size := by
            intro L
            induction L with
            | nil => intro s sf _ m hm; simp at hm
            | cons x L ihL =>
              intro s sf hc m hm
              rcases List.mem_cons.1 hm with rfl | hm
              · obtain ⟨⟨o, ho, _⟩, _⟩ := hc
                exact lt_of_get ho
              · exact ihL hc.2 m hm
          exact this hch m (by simp [hmem])
        exact ⟨(hm m.1 hmo).2 ⟨m, by simp [hmem], rfl⟩, hmo⟩
      obtain ⟨⟨o', ho', hls⟩, hch'⟩ := hch.front hapart
      rw [hli, ho] at ho'
      simp only [Option.some.injEq] at ho'
      subst ho'
      have hop := hls s (Agree.refl _ _) (hF l (by simp)) E G a w hr hE (wpAny Z.P .any ops (Qn K) fuel (listed.setIfInBounds i true)) (Qn K) ?_
      · unfold wpOp
        rw [ho]
        dsimp only
        split at hop
        · rename_i hw; rw [if_pos hw]; exact .inl hop
        · rename_i hw; rw [if_neg hw]; exact hop
      · intro G' v w' hr'
        have hil : i < listed.size := by omega
        have hget : ∀ (k : Nat) (d : Bool), (listed.setIfInBounds i true).getD k d = if k = i then true else listed.getD k d := by
          intro k d
          by_cases hk : k = i
          · subst hk; simp [Array.getD, hil]
          · have hk' : ¬ i = k := fun e => hk e.symm
            simp only [hk, if_false]
            by_cases hkl : k < listed.size
            · simp [Array.getD, hkl, hk']
            · simp [Array.getD, hkl]
        refine ih (listed.setIfInBounds i true) (p ++ q) _ G' _ w' (by simpa using hsz) ?_ ?_ ?_ ?_ ?_ ?_ ?_ hch' hr'
        · simp only [List.length_append, List.length_cons] at hL ⊢; omega
        · intro k hk
          rw [hget]
          by_cases hki : k = i
          · subst hki
            simp only [if_true]
            constructor
            · intro h; simp at h
            · rintro ⟨m, hm1, hm2⟩
              exfalso
              rw [List.pairwise_append] at hp
              obtain ⟨_, hp2, hp3⟩ := hp
              rcases List.mem_append.1 hm1 with hm1 | hm1
              · have := hp3 m hm1 l (by simp); omega
              · have := (List.pairwise_cons.1 hp2).1 m hm1; omega
          · rw [if_neg hki, hm k hk]
            constructor
            · rintro ⟨m, hm1, hm2⟩
              refine ⟨m, ?_, hm2⟩
              rcases List.mem_append.1 hm1 with hm1 | hm1
              · simp [hm1]
              · rcases List.mem_cons.1 hm1 with rfl | hm1
                · exfalso; omega
                · simp [hm1]
            · rintro ⟨m, hm1, hm2⟩
              refine ⟨m, ?_, hm2⟩
              rcases List.mem_append.1 hm1 with hm1 | hm1
              · simp [hm1]
              · simp [hm1]
        · intro j oj hoj hlj e he hb
          rw [hget] at hlj ⊢
          split
          · rfl
          · by_cases hji : j = i
            · subst hji
              rw [ho] at hoj; simp at hoj; subst hoj
              exact hpre e he hb
            · rw [if_neg hji] at hlj
              exact hd j oj hoj hlj e he hb
        · rw [List.pairwise_append] at hp ⊢
          exact ⟨hp.1, (List.pairwise_cons.1 hp.2.1).2, fun x hx y hy => hp.2.2 x hx y (by simp [hy])⟩
        · have : ∀ (p : List Lnk), pairsB B (p ++ l :: q) = true → pairsB B (p ++ q) = true := by
            intro p
            induction p with
            | nil => intro h; simp only [List.nil_append, pairsB, Bool.and_eq_true] at h ⊢; exact h.2
            | cons x p ihp =>
              intro h
              simp only [List.cons_append, pairsB, Bool.and_eq_true] at h ⊢
              refine ⟨?_, ihp h.2⟩
              rw [List.all_eq_true] at h ⊢
              intro y hy
              refine h.1 y ?_
              rcases List.mem_append.1 hy with hy | hy
              · simp [hy]
              · simp [hy]
          exact this p hpair
        · unfold nmB at hnm ⊢
          rw [List.all_eq_true] at hnm ⊢
          intro x hx
          have hx' : x ∈ p ++ l :: q := by
            rcases List.mem_append.1 hx with h | h
            · simp [h]
            · simp [h]
          have h1 := hnm x hx'
          rw [List.all_eq_true] at h1 ⊢
          intro y hy
          exact h1 y (by
            rcases List.mem_append.1 hy with h | h
            · simp [h]
            · simp [h])
        · intro m hmem n hn
          have hmem' : m ∈ p ++ l :: q := by
            rcases List.mem_append.1 hmem with h | h
            · simp [h]
            · simp [h]
          refine (hF m hmem' n hn).ap ?_
          have h1 := List.all_eq_true.1 (List.all_eq_true.1 hnm l (by simp)) m hmem'
          simp only [Bool.or_eq_true] at h1
          have hne : l.1 ≠ m.1 := by
            rw [List.pairwise_append] at hp
            obtain ⟨_, hp2, hp3⟩ := hp
            rcases List.mem_append.1 hmem with h | h
            · have := hp3 m h l (by simp); omega
            · have := (List.pairwise_cons.1 hp2).1 m h; omega
          rcases h1 with (h1 | h1) | h1
          · exact absurd (Nat.eq_of_beq_eq_true h1) hne
          · exfalso
            have hmo : m.1 < ops.size := by
              have : ∀ {L : List Lnk} {s sf : St}, Chain Z N ops L s sf → ∀ m ∈ L, m.1 < ops.size := by
                intro L
                induction L with
                | nil => intro s sf _ m hm; simp at hm
                | cons x L ihL =>
                  intro s sf hc m hm
                  rcases List.mem_cons.1 hm with rfl | hm
                  · obtain ⟨⟨o, ho, _⟩, _⟩ := hc
                    exact lt_of_get ho
                  · exact ihL hc.2 m hm
              exact this hch' m hmem
            rw [hli] at h1
            have hl1 := cert_prec hcert hsz hd i o ho hpre m.1 hmo h1
            have hl2 := (hm m.1 hmo).2 ⟨m, hmem', rfl⟩
            have hml : m.1 < listed.size := by omega
            simp only [Array.getD, hml, dif_pos] at hl1 hl2
            rw [hl2] at hl1
            simp at hl1
          · have := List.all_eq_true.1 h1 n hn
            simpa using this

/-- The list of links is that of the region, in order. -/
def linksB : Nat → List Lnk → Bool
  | _, [] => true
  | k, l :: r => Nat.beq l.1 k && linksB (k + 1) r
theorem linksB_ge : ∀ (L : List Lnk) (k : Nat), linksB k L = true → ∀ l ∈ L, k ≤ l.1 ∧ l.1 < k + L.length
  | [], k, _, l, h => by simp at h
  | x :: r, k, hb, l, h => by
    simp only [linksB, Bool.and_eq_true] at hb
    have hx := Nat.eq_of_beq_eq_true hb.1
    rcases List.mem_cons.1 h with rfl | h
    · simp; omega
    · have := linksB_ge r (k + 1) hb.2 l h; simp; omega
theorem linksB_pw : ∀ (L : List Lnk) (k : Nat), linksB k L = true → L.Pairwise (fun x y => x.1 < y.1)
  | [], _, _ => .nil
  | x :: r, k, hb => by
    simp only [linksB, Bool.and_eq_true] at hb
    have hx := Nat.eq_of_beq_eq_true hb.1
    exact .cons (fun y hy => by have := linksB_ge r (k + 1) hb.2 y hy; omega) (linksB_pw r (k + 1) hb.2)
theorem linksB_mem : ∀ (L : List Lnk) (k : Nat), linksB k L = true → ∀ i, k ≤ i → i < k + L.length → ∃ l ∈ L, l.1 = i
  | [], k, _, i, h1, h2 => by simp at h2; omega
  | x :: r, k, hb, i, h1, h2 => by
    simp only [linksB, Bool.and_eq_true] at hb
    have hx := Nat.eq_of_beq_eq_true hb.1
    by_cases hi : i = k
    · exact ⟨x, by simp, by omega⟩
    · obtain ⟨l, hl, he⟩ := linksB_mem r (k + 1) hb.2 i (by omega) (by simp at h2; omega)
      exact ⟨l, by simp [hl], he⟩

theorem awp_draw {N : Nat} {Q : Exit → St → Prop} {st sf : St} {id : Nat} {ops : List Oper} {L : List Lnk} (B : List Nat) (hch : Chain Z N ops.toArray L st sf) (hlen : Nat.beq L.length ops.length = true) (hlnk : linksB 0 L = true)
    (hcert : certB ops.toArray B = true) (hpair : pairsB B L = true) (hnm : nmB B L = true) (hF : ∀ l ∈ L, ∀ n ∈ l.2.2.rn, FreshG st n) (hQ : Q .normal sf) : AWP Z N (.region id ops.toArray true) Q st := by
  intro E G a w hr hE
  have hl : L.length = ops.length := Nat.eq_of_beq_eq_true hlen
  refine wp_mono (wp_region_any Z.mix (region_any (K := fun a' w' => ∃ G' st', Q .normal st' ∧ Rel E G' st' a' w') hcert hE (fun G a w h => ⟨G, sf, hQ, h⟩) _ _ L st G a _ (by simp) (by simp [hl]) ?_ ?_ (linksB_pw L 0 hlnk) hpair hnm hF hch hr.drew)) ?_
  · intro i hi
    have hi' : i < ops.length := by simpa using hi
    have : (Array.replicate ops.toArray.size false).getD i true = false := by simp [Array.getD, hi']
    rw [this]
    simp only [true_iff]
    exact linksB_mem L 0 hlnk i (Nat.zero_le _) (by omega)
  · intro j o ho hlj
    have hj : j < ops.length := by simpa using lt_of_get ho
    have : (Array.replicate ops.toArray.size false).getD j true = false := by simp [Array.getD, hj]
    rw [this] at hlj
    simp at hlj
  · intro e a' w' hq
    cases e <;> first | exact hq | exact hq.elim

end Go.Abs
