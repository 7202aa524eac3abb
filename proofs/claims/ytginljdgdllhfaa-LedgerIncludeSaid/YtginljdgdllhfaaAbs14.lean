/- Calls that hand boxes on; the driver's words for drawn regions. -/
import Derived.Test.YtginljdgdllhfaaAbs13
set_option linter.unusedVariables false
set_option linter.unusedSimpArgs false
namespace Go.Abs
variable {Z : Pg}

/-- What is handed on: the box, where in it, its whole content, and what stands there behind the call. -/
structure Pass where
  n : Nm
  off : Nat
  cs : List C
  ds : List C
def Pass.old (p : Pass) : List C := (p.cs.drop p.off).take p.ds.length
def St.stores (st : St) : List Pass → St
  | [] => st
  | p :: r => (st.store p.n (setAt p.cs p.off p.ds) p.off p.ds.length).stores r
def passB (st : St) : List Pass → Bool
  | [] => true
  | p :: r => Nat.ble (p.off + p.ds.length) p.cs.length && (r.all fun q => !Nm.beq p.n q.n) && passB st r

def Y.tr (ps : List Pass) : Y → Y
  | .ptr (.o j) k => match ps[j]? with
    | some p => .ptr p.n (p.off + k)
    | none => .ptr (.o j) k
  | y => y
def X.tr (ps : List Pass) : X → X
  | .v z => .v (z.tr ps)
  | x => x
def Y.trOk (ps : List Pass) : Y → Bool
  | .ptr (.o j) _ => (ps[j]?).isSome
  | .ptr (.l _) _ => false
  | .ms _ _ _ _ => false
  | _ => true
def X.trOk (ps : List Pass) : X → Bool
  | .v z => z.trOk ps
  | x => x.clean

theorem stores_get : ∀ (ps : List Pass) (st : St) (k : Nat), (st.stores ps).get k = st.get k
  | [], _, _ => rfl
  | p :: r, st, k => by rw [St.stores, stores_get r]; rfl
theorem stores_box_other : ∀ (ps : List Pass) (st : St) (m : Nm), (∀ p ∈ ps, p.n ≠ m) → (st.stores ps).box m = st.box m
  | [], _, _, _ => rfl
  | p :: r, st, m, h => by
    rw [St.stores, stores_box_other r _ m fun q hq => h q (by simp [hq]), St.store_box, if_neg (h p (by simp))]
theorem stores_box : ∀ (ps : List Pass) (st : St) (p : Pass), passB st ps = true → p ∈ ps → (st.stores ps).box p.n = some (setAt p.cs p.off p.ds)
  | [], _, _, _, h => by simp at h
  | q :: r, st, p, hb, h => by
    simp only [passB, Bool.and_eq_true] at hb
    rw [St.stores]
    rcases List.mem_cons.1 h with rfl | h
    · rw [stores_box_other r _ p.n fun q hq e => by
        have := List.all_eq_true.1 hb.1.2 q hq
        rw [e] at this; simp [Nm.beq_self] at this]
      rw [St.store_box, if_pos rfl]
    · have hb2 : passB (st.store q.n (setAt q.cs q.off q.ds) q.off q.ds.length) r = true := by
        have : ∀ (l : List Pass) (s s' : St), passB s l = passB s' l := by
          intro l; induction l with
          | nil => intro _ _; rfl
          | cons x l ih => intro s s'; simp only [passB, ih s s']
        rw [this r _ st]; exact hb.2
      exact stores_box r _ p hb2 h
theorem stores_own : ∀ (ps : List Pass) (st : St) (q : Pl) (sz : Nat), (st.stores ps).own q = some sz → st.own q = some sz ∧ ∀ p ∈ ps, Pl.inCells p.n p.off p.ds.length q = false
  | [], _, _, _, h => ⟨h, fun p hp => by simp at hp⟩
  | p :: r, st, q, sz, h => by
    rw [St.stores] at h
    obtain ⟨h1, h2⟩ := stores_own r _ q sz h
    rw [St.store_own] at h1
    split at h1
    · simp at h1
    · rename_i hin
      refine ⟨h1, fun x hx => ?_⟩
      rcases List.mem_cons.1 hx with rfl | hx
      · simpa using hin
      · exact h2 x hx

theorem passB_nodup : ∀ {ps : List Pass} {st : St}, passB st ps = true → ∀ (i j : Nat) (p q : Pass), ps[i]? = some p → ps[j]? = some q → p.n = q.n → i = j
  | [], _, _, i, _, p, _, h, _, _ => by simp at h
  | x :: r, st, hb, i, j, p, q, hi, hj, he => by
    simp only [passB, Bool.and_eq_true] at hb
    have hne : ∀ y ∈ r, x.n ≠ y.n := fun y hy e => by
      have := List.all_eq_true.1 hb.1.2 y hy
      rw [e] at this; simp [Nm.beq_self] at this
    cases i with
    | zero =>
      simp at hi; subst hi
      cases j with
      | zero => rfl
      | succ j => exact absurd he (hne q (List.mem_of_getElem? (by simpa using hj)))
    | succ i =>
      cases j with
      | zero =>
        simp at hj; subst hj
        exact absurd he.symm (hne p (List.mem_of_getElem? (by simpa using hi)))
      | succ j =>
        have := passB_nodup hb.2 i j p q (by simpa using hi) (by simpa using hj) he
        omega
theorem passB_len : ∀ {ps : List Pass} {st : St}, passB st ps = true → ∀ p ∈ ps, p.off + p.ds.length ≤ p.cs.length
  | [], _, _, p, h => by simp at h
  | x :: r, st, hb, p, h => by
    simp only [passB, Bool.and_eq_true] at hb
    rcases List.mem_cons.1 h with rfl | h
    · exact Nat.le_of_ble_eq_true hb.1.1
    · exact passB_len hb.2 p h

theorem setAt_get (cs : List C) : ∀ (ds : List C) (off : Nat) (j : Nat), off + ds.length ≤ cs.length → (setAt cs off ds)[j]? = if off ≤ j ∧ j < off + ds.length then ds[j - off]? else cs[j]? := by
  intro ds
  induction ds generalizing cs with
  | nil => intro off j _; rw [if_neg (by simp only [List.length_nil]; omega)]; rfl
  | cons d ds ih =>
    intro off j h
    simp only [List.length_cons] at h
    rw [setAt, ih (cs.set off d) (off + 1) j (by simp; omega)]
    by_cases hj : off + 1 ≤ j ∧ j < off + 1 + ds.length
    · rw [if_pos hj, if_pos (by simp only [List.length_cons]; omega), show j - off = (j - (off + 1)) + 1 by omega]; simp
    · rw [if_neg hj]
      by_cases he : j = off
      · subst he
        rw [if_pos (by simp only [List.length_cons]; omega), List.getElem?_set_self (by omega)]; simp
      · rw [if_neg (by simp only [List.length_cons]; omega), List.getElem?_set_ne (fun e => he e.symm)]

/-- A world behind a call that may have written boxes. -/
theorem Rel.after {E : Env} {G G2 : Gh} {st st2 : St} {a : Act} {w w' : World} {M : Nat → Nat → Prop} (h : Rel E G st a w) (hf : Fr M w.heap.size w w') (hW : ∀ b o, b < w.heap.size → G2.W b o = G.W b o) (hA : G2.A = G.A)
    (hwf : ∀ b o, G2.W b o ≠ .none → b < w'.heap.size) (ht : ∀ k e, st2.get k = some e → st.get k = some e) (hM : ∀ b o, M b o → ∃ n, G.W b o = .box n) (hb : ∀ n cs, st2.box n = some cs → BoxAt w' G2 n cs)
    (ho : ∀ p sz, st2.own p = some sz → st.own p = some sz ∧ ∀ n off, p = .b n off → ¬ M (G.A n).1 ((G.A n).2 + off)) : Rel E G2 st2 a w' := by
  have hB : E.B ≤ w.heap.size := Nat.le_trans h.hB h.fr.size
  have hS : ∀ b o, G.S b o → G2.S b o := fun b o hs => by
    unfold Gh.S at *
    rw [hW b o (h.wf b o (by rw [hs]; simp))]
    exact hs
  have hnM : ∀ b o, (∀ n, G.W b o ≠ .box n) → ¬ M b o := fun b o hn hm => by
    obtain ⟨n, hn'⟩ := hM b o hm; exact hn n hn'
  have hcS : ∀ b o, G.S b o → w'.cell? ⟨b, o, none⟩ = w.cell? ⟨b, o, none⟩ := fun b o hs => by
    unfold Gh.S at hs
    exact hf.cell b o (h.wf b o (by rw [hs]; simp)) (hnM b o fun n => by rw [hs]; simp)
  constructor
  · exact h.df
  · intro k g x hk
    obtain ⟨v, hv, h1, h2⟩ := h.tm k g x (ht k _ hk)
    exact ⟨v, hv, fun hg => (h1 hg).mono hS hcS (fun _ _ => by rw [hA]), h2⟩
  · exact hb
  · intro p sz hp
    obtain ⟨hp1, hp2⟩ := ho p sz hp
    obtain ⟨v, hv, hov⟩ := h.ow p sz hp1
    refine ⟨v, ?_, ?_⟩
    · cases p with
      | t k => exact hv
      | b n off =>
        have hlt := ValAt.lt h hp1 rfl
        show w'.cell? _ = _ ∧ G2.W _ _ = _
        rw [hA, hf.cell _ _ hlt (hp2 n off rfl), hW _ _ hlt]
        exact hv
    · rcases hov with hov | ⟨blk, len, cap, e, h1, h2, h3, h4⟩
      · exact .inl hov
      · by_cases hz : len * sz < cap * sz
        · have hlt := h.wf blk (len * sz) (by rw [(h4 _ (Nat.le_refl _) hz).1]; simp)
          exact .inr ⟨blk, len, cap, e, h1, h2, by rw [hf.shape blk hlt]; exact h3, fun o ho1 ho2 => by
            rw [hW blk o hlt, hf.frozen blk o hlt]; exact h4 o ho1 ho2⟩
        · have hlt : blk < w.heap.size := by
            rcases Nat.lt_or_ge blk w.heap.size with hx | hx
            · exact hx
            · simp [World.shape?, Array.getElem?_eq_none hx] at h3
          exact .inr ⟨blk, len, cap, e, h1, h2, by rw [hf.shape blk hlt]; exact h3, fun o ho1 ho2 => by omega⟩
  · exact hwf
  · intro b o n hb' hn
    rw [hW b o (by omega)] at hn
    exact h.olB b o n hb' hn
  · intro b o p hb' hn
    rw [hW b o (by omega)] at hn
    exact h.olO b o p hb' hn
  · exact h.nt
  · exact fun j => by rw [hA]; exact h.oA j
  · intro b o hi
    exact hS b o (h.im b o hi)
  · intro b o hb' hi
    rw [hW b o (by omega)] at hi
    exact h.im' b o hb' hi
  · refine h.fr.trans (hf.mono hB fun b o hb' hm => ?_)
    obtain ⟨n, hn⟩ := hM b o hm
    exact h.olB b o n hb' hn
  · exact h.hB
  · intro b o hb'
    rw [hW b o (by omega)]
    exact h.lo b o hb'

/-- The ghost that a callee with boxes sees. -/
def Gh.passed (G : Gh) (ps : List Pass) : Gh where
  W := fun b o => match G.W b o with
    | .imm => .imm
    | .box n => (match (List.range ps.length).find? fun j => (match ps[j]? with
        | some p => Nm.beq p.n n && (Nat.beq b (G.A n).1 && (Nat.ble ((G.A n).2 + p.off) o && Nat.ble (o + 1) ((G.A n).2 + p.off + p.ds.length)))
        | none => false) with
      | some j => .box (.o j)
      | none => .none)
    | _ => .none
  A := fun n => match n with
    | .o j => (match ps[j]? with
      | some p => ((G.A p.n).1, (G.A p.n).2 + p.off)
      | none => (0, 0))
    | .l k => G.A (.l k)

theorem Gh.passed_imm (G : Gh) (ps : List Pass) (b o : Nat) : (G.passed ps).W b o = .imm ↔ G.W b o = .imm := by
  unfold Gh.passed
  dsimp only
  cases hw : G.W b o with
  | imm => simp
  | none => simp
  | own p => simp
  | box n => dsimp only; split <;> simp
theorem Gh.passed_own (G : Gh) (ps : List Pass) (b o : Nat) (p : Pl) : (G.passed ps).W b o ≠ .own p := by
  unfold Gh.passed
  dsimp only
  cases hw : G.W b o with
  | imm => simp
  | none => simp
  | own p => simp
  | box n => dsimp only; split <;> simp
theorem Gh.passed_box {G : Gh} {ps : List Pass} {b o : Nat} {m : Nm} (h : (G.passed ps).W b o = .box m) : ∃ (j : Nat) (p : Pass), m = .o j ∧ ps[j]? = some p ∧ G.W b o = .box p.n ∧ b = (G.A p.n).1 ∧ (G.A p.n).2 + p.off ≤ o ∧ o < (G.A p.n).2 + p.off + p.ds.length := by
  unfold Gh.passed at h
  dsimp only at h
  cases hw : G.W b o with
  | imm => rw [hw] at h; simp at h
  | none => rw [hw] at h; simp at h
  | own p => rw [hw] at h; simp at h
  | box n =>
    rw [hw] at h
    dsimp only at h
    split at h
    · rename_i j hj
      have := List.find?_some hj
      cases hp : ps[j]? with
      | none => rw [hp] at this; simp at this
      | some p =>
        rw [hp] at this
        simp only [Bool.and_eq_true] at this
        obtain ⟨h1, h2, h3, h4⟩ := this
        rw [Nm.beq_iff] at h1
        subst h1
        simp only [Who.box.injEq] at h
        exact ⟨j, p, h.symm, hp, rfl, Nat.eq_of_beq_eq_true h2, Nat.le_of_ble_eq_true h3, Nat.le_of_ble_eq_true h4⟩
    · simp at h
theorem Gh.passed_at {G : Gh} {ps : List Pass} {st : St} (hnd : passB st ps = true) {j : Nat} {p : Pass} (hj : ps[j]? = some p) {k : Nat} (hk : k < p.ds.length) (hw : G.W (G.A p.n).1 ((G.A p.n).2 + p.off + k) = .box p.n) :
    (G.passed ps).W (G.A p.n).1 ((G.A p.n).2 + p.off + k) = .box (.o j) := by
  unfold Gh.passed
  dsimp only
  rw [hw]
  dsimp only
  split
  · rename_i i hi
    have := List.find?_some hi
    cases hp : ps[i]? with
    | none => rw [hp] at this; simp at this
    | some q =>
      rw [hp] at this
      simp only [Bool.and_eq_true, Nm.beq_iff] at this
      rw [passB_nodup hnd i j q p hp hj this.1]
  · rename_i hnone
    exfalso
    rw [List.find?_eq_none] at hnone
    have hjl : j < ps.length := (List.getElem?_eq_some_iff.1 hj).1
    have := hnone j (List.mem_range.2 hjl)
    rw [hj] at this
    apply this
    simp only [Bool.and_eq_true]
    exact ⟨Nm.beq_self _, by simp, Nat.ble_eq_true_of_le (by omega), Nat.ble_eq_true_of_le (by omega)⟩

theorem All2.map_left {α β γ : Type} {R : β → γ → Prop} {f : α → β} : ∀ {as : List α} {bs : List γ}, All2 R (as.map f) bs → All2 (fun a b => R (f a) b) as bs
  | [], [], _ => trivial
  | _ :: _, _ :: _, h => ⟨h.1, All2.map_left h.2⟩
  | [], _ :: _, h => h.elim
  | _ :: _, [], h => h.elim

def trAll (ps : List Pass) (xs : List X) : Bool := xs.all (·.trOk ps)

theorem YRep.tr {w : World} {G : Gh} {ps : List Pass} {y : Y} {v : Value} (hok : y.trOk ps = true) (h : YRep w G (y.tr ps) v) : YRep w (G.passed ps) y v := by
  have hS : ∀ b o, G.S b o → (G.passed ps).S b o := fun b o hs => (G.passed_imm ps b o).2 hs
  cases y with
  | c x => exact CRep.mono hS (fun _ _ _ => rfl) h
  | agg cs => obtain ⟨vs, h1, h2⟩ := h; exact ⟨vs, h1, h2.mono fun _ _ => CRep.mono hS (fun _ _ _ => rfl)⟩
  | ro cs => obtain ⟨blk, off, h1, h2⟩ := h; exact ⟨blk, off, h1, h2.mono hS (fun _ _ _ => rfl)⟩
  | ptr n off =>
    cases n with
    | l k => simp [Y.trOk] at hok
    | o j =>
      simp only [Y.trOk] at hok
      cases hp : ps[j]? with
      | none => rw [hp] at hok; simp at hok
      | some p =>
        simp only [Y.tr, hp, YRep] at h
        simp only [YRep, Gh.passed, hp]
        rw [h, Nat.add_assoc]
  | ms n sz off len => simp [Y.trOk] at hok
theorem XRep.tr {w : World} {G : Gh} {ps : List Pass} {x : X} {v : Value} (hok : x.trOk ps = true) (h : XRep w G (x.tr ps) v) : XRep w (G.passed ps) x v := by
  have hS : ∀ b o, G.S b o → (G.passed ps).S b o := fun b o hs => (G.passed_imm ps b o).2 hs
  cases x with
  | v z => exact YRep.tr hok h
  | tup ys =>
    have hok' : X.clean (.tup ys) = true := hok
    exact XRep.mono hS (fun _ _ _ => rfl) (fun n hn => by rw [X.clean_has hok' n] at hn; simp at hn) h
  | fn f caps =>
    have hok' : X.clean (.fn f caps) = true := hok
    exact XRep.mono hS (fun _ _ _ => rfl) (fun n hn => by rw [X.clean_has hok' n] at hn; simp at hn) h

/-- A call of a function that is handed boxes (not under a guard). -/
theorem op1_callB {N : Nat} {ops : Array Oper} {st : St} {o : Oper} {fo : Operand} {args : Array Operand} {ts : Array TypeId} {f : FuncId} {xs cxs : List X} {res : X} {ps : List Pass} {dst : Option Nat} {fin : St}
    (ho : o.op = .call { callee := .value fo, args := args, argTypes := ts }) (hg : gateOf ops st o = some true)
    (hf : lk Z.T st 0 fo = some (true, .fn f [])) (ha : lkAll Z.T st ts.toList args.toList = some (true, xs)) (htr : cxs.map (X.tr ps) = xs) (htrok : trAll ps cxs = true)
    (hps : ∀ p ∈ ps, st.box p.n = some p.cs) (hnd : passB st ps = true)
    (hs : Ctr Z f cxs (ps.map Pass.old) res none (ps.map Pass.ds)) (hc : res.clean = true) (hd : o.dst = dst)
    (hfin : match dst with | some d => Nat.ble (d + 1) N = true ∧ fin = (st.stores ps).put d (true, res) | none => fin = st.stores ps) : Op1 Z N ops o st fin := by
  intro E G a w hr hE K' Q' hK
  rw [wanted_gate hr hg]
  simp only [if_true]
  obtain ⟨cvs, hfv, hcv⟩ := lk_rep hr hf rfl
  have hcv0 : cvs = [] := by cases cvs with
    | nil => rfl
    | cons _ _ => exact hcv.elim
  subst hcv0
  have hav := lkAll_rep hr ha rfl
  obtain ⟨hen, hsp⟩ := hs
  unfold Oper.wp
  rw [run_call ho hfv hen, Oper.upon_enter]
  rw [← htr] at hav
  have hlen := passB_len hnd
  have hav2 : All2 (XRep w (G.passed ps)) cxs (args.toList.map a.eval) :=
    All2.mem_mono (fun x v hx hxv => XRep.tr (List.all_eq_true.1 htrok x hx) hxv) (All2.map_left hav)
  have hbox : ∀ (j : Nat) (p : Pass), ps[j]? = some p → BoxAt w G p.n p.cs := fun j p hj => hr.bx p.n p.cs (hps p (List.mem_of_getElem? hj))
  rw [List.append_nil]
  refine (hsp w (G.passed ps) _ hav2 ?_ ?_ ?_ (fun b o' p => G.passed_own ps b o' p)).mono ?_
  · intro b o' hb
    refine hr.wf b o' ?_
    intro e
    apply hb
    unfold Gh.passed
    dsimp only
    rw [e]
  · intro j cs hj k c hk
    rw [List.getElem?_map] at hj
    cases hp : ps[j]? with
    | none => rw [hp] at hj; simp at hj
    | some p =>
      rw [hp] at hj
      simp only [Option.map_some, Option.some.injEq] at hj
      subst hj
      unfold Pass.old at hk
      rw [List.getElem?_take] at hk
      split at hk
      · rename_i hkl
        rw [List.getElem?_drop] at hk
        obtain ⟨h1, h2, v, h3, h4⟩ := hbox j p hp _ c hk
        have hA : (G.passed ps).A (.o j) = ((G.A p.n).1, (G.A p.n).2 + p.off) := by simp [Gh.passed, hp]
        rw [hA]
        rw [← Nat.add_assoc] at h1 h2 h3
        exact ⟨Gh.passed_at hnd hp hkl h1, h2, v, h3, h4.mono (fun b o' hs => (G.passed_imm ps b o').2 hs) (fun _ _ _ => rfl)⟩
      · simp at hk
  · intro b o' n hn
    obtain ⟨j, p, rfl, hp, hw, h1, h2, h3⟩ := Gh.passed_box hn
    have hpl := hlen p (List.mem_of_getElem? hp)
    refine ⟨j, p.old, o' - ((G.A p.n).2 + p.off), rfl, by rw [List.getElem?_map, hp]; rfl, ?_, ?_, ?_⟩
    · simp only [Pass.old, List.length_take, List.length_drop]; omega
    · simp [Gh.passed, hp, h1]
    · simp only [Gh.passed, hp]; omega
  · rintro e w' ⟨v, G', rfl, hfr, h1, h2, h3, h4, h5, h6, h7, h8⟩
    dsimp only
    have g2 : ∀ b o', b < w.heap.size → G'.W b o' = .imm → G.W b o' = .imm := fun b o' hb hi => (G.passed_imm ps b o').1 (h2 b o' hb hi)
    let G2 := G.back G' w.heap.size .none
    have hS2 : ∀ b o', G'.S b o' → G2.S b o' := fun b o' => Gh.back_imm g2 b o'
    have hW2 : ∀ b o', b < w.heap.size → G2.W b o' = G.W b o' := fun b o' hb => by simp [G2, Gh.back, hb]
    have hrel : Rel E G2 (st.stores ps) a w' := by
      refine hr.after (M := fun b o' => ∃ n, (G.passed ps).W b o' = .box n) hfr hW2 rfl ?_ (fun k e hk => by rw [stores_get] at hk; exact hk) ?_ ?_ ?_
      · intro b o' hb
        dsimp only [G2, Gh.back] at hb
        split at hb
        · rename_i hlt; exact Nat.lt_of_lt_of_le hlt hfr.size
        · refine h3 b o' ?_
          intro e; rw [e] at hb; simp at hb
      · rintro b o' ⟨n, hn⟩
        obtain ⟨j, p, _, _, hw, _⟩ := Gh.passed_box hn
        exact ⟨_, hw⟩
      · intro n cs hn
        by_cases hin : ∃ p ∈ ps, p.n = n
        · obtain ⟨p, hp, rfl⟩ := hin
          rw [stores_box ps st p hnd hp] at hn
          simp only [Option.some.injEq] at hn
          subst hn
          obtain ⟨j, hj⟩ := List.getElem?_of_mem hp
          have hpl := hlen p hp
          intro k c hk
          rw [setAt_get p.cs p.ds p.off k hpl] at hk
          have hA2 : G2.A p.n = G.A p.n := rfl
          rw [hA2]
          have hkl : k < p.cs.length := by
            split at hk
            · rename_i hh; omega
            · exact (List.getElem?_eq_some_iff.1 hk).1
          obtain ⟨q1, q2, u, q3, q4⟩ := hbox j p hj k _ (List.getElem?_eq_getElem hkl)
          have hlt : (G.A p.n).1 < w.heap.size := World.block_lt_of_cell? (a := ⟨(G.A p.n).1, (G.A p.n).2 + k, none⟩) w q3
          refine ⟨by rw [hW2 _ _ hlt]; exact q1, by rw [hfr.frozen _ _ hlt]; exact q2, ?_⟩
          split at hk
          · rename_i hh
            have hb := h6 j p.ds (by rw [List.getElem?_map, hj]; rfl) (k - p.off) c hk
            rw [h5 j] at hb
            have hA : (G.passed ps).A (.o j) = ((G.A p.n).1, (G.A p.n).2 + p.off) := by simp [Gh.passed, hj]
            rw [hA] at hb
            obtain ⟨_, _, u', b3, b4⟩ := hb
            dsimp only at b3
            rw [show (G.A p.n).2 + p.off + (k - p.off) = (G.A p.n).2 + k by omega] at b3
            exact ⟨u', b3, b4.mono hS2 (fun _ _ _ => rfl)⟩
          · rename_i hh
            rw [List.getElem?_eq_getElem hkl] at hk
            simp only [Option.some.injEq] at hk
            subst hk
            refine ⟨u, ?_, q4.mono (fun b o' hs => ?_) (fun b o' hs => ?_)⟩
            · rw [hfr.cell _ _ hlt]
              · exact q3
              · rintro ⟨n, hn⟩
                obtain ⟨i, q, _, hq, hw, r1, r2, r3⟩ := Gh.passed_box hn
                rw [q1] at hw
                simp only [Who.box.injEq] at hw
                have := passB_nodup hnd i j q p hq hj hw.symm
                subst this
                rw [hj] at hq
                simp only [Option.some.injEq] at hq
                subst hq
                omega
            · exact hS2 b o' (h1 b o' ((G.passed_imm ps b o').2 hs))
            · have hlt' := hr.wf b o' (by unfold Gh.S at hs; rw [hs]; simp)
              refine hfr.cell b o' hlt' ?_
              rintro ⟨n, hn⟩
              obtain ⟨_, _, _, _, hw, _⟩ := Gh.passed_box hn
              unfold Gh.S at hs
              rw [hs] at hw; simp at hw
        · rw [stores_box_other ps st n (fun p hp e => hin ⟨p, hp, e⟩)] at hn
          intro k c hk
          obtain ⟨q1, q2, u, q3, q4⟩ := hr.bx n cs hn k c hk
          have hlt : (G.A n).1 < w.heap.size := World.block_lt_of_cell? (a := ⟨(G.A n).1, (G.A n).2 + k, none⟩) w q3
          have hA2 : G2.A n = G.A n := rfl
          rw [hA2]
          refine ⟨by rw [hW2 _ _ hlt]; exact q1, by rw [hfr.frozen _ _ hlt]; exact q2, u, ?_, q4.mono (fun b o' hs => ?_) (fun b o' hs => ?_)⟩
          · rw [hfr.cell _ _ hlt]
            · exact q3
            · rintro ⟨m, hm⟩
              obtain ⟨i, q, _, hq, hw, _⟩ := Gh.passed_box hm
              rw [q1] at hw
              simp only [Who.box.injEq] at hw
              exact hin ⟨q, List.mem_of_getElem? hq, hw.symm⟩
          · exact hS2 b o' (h1 b o' ((G.passed_imm ps b o').2 hs))
          · have hlt' := hr.wf b o' (by unfold Gh.S at hs; rw [hs]; simp)
            refine hfr.cell b o' hlt' ?_
            rintro ⟨n, hn⟩
            obtain ⟨_, _, _, _, hw, _⟩ := Gh.passed_box hn
            unfold Gh.S at hs
            rw [hs] at hw; simp at hw
      · intro p sz hp
        obtain ⟨hp1, hp2⟩ := stores_own ps st p sz hp
        refine ⟨hp1, ?_⟩
        rintro n off rfl ⟨m, hm⟩
        obtain ⟨i, q, _, hq, hw, r1, r2, r3⟩ := Gh.passed_box hm
        obtain ⟨u, hu, _⟩ := hr.ow _ _ hp1
        rw [hu.2] at hw
        simp only [Who.box.injEq] at hw
        subst hw
        have := hp2 q (List.mem_of_getElem? hq)
        simp only [Pl.inCells, Nm.beq_self, Bool.true_and, Bool.and_eq_false_iff] at this
        rcases this with this | this
        · have : ¬ q.off ≤ off := fun hle => by rw [Nat.ble_eq_true_of_le hle] at this; simp at this
          omega
        · have : ¬ off + 1 ≤ q.off + q.ds.length := fun hle => by rw [Nat.ble_eq_true_of_le hle] at this; simp at this
          omega
    have hX : XRep w' G2 res v := h4.mono hS2 (fun _ _ _ => rfl) (fun n hn => by rw [X.clean_has hc n] at hn; simp at hn)
    rw [hd] at hK ⊢
    cases dst with
    | none =>
      dsimp only at hfin
      subst hfin
      exact hK G2 v w' hrel
    | some d =>
      dsimp only at hfin
      obtain ⟨hN, rfl⟩ := hfin
      have hdN : d < E.nt := by rw [hE]; exact Nat.le_of_ble_eq_true hN
      exact hK G2 v w' (hrel.put hdN (g := true) (fun _ => hX) (fun hf => by simp at hf))


theorem ls_callB {N : Nat} {ops : Array Oper} {st : St} {o : Oper} {fo : Operand} {args : Array Operand} {ts : Array TypeId} {f : FuncId} {xs cxs : List X} {res : X} {p : Pass} {d : Nat} {R : Foot}
    (ho : o.op = .call { callee := .value fo, args := args, argTypes := ts }) (hg : gateOf ops (rs R st) o = some true)
    (hf : lk Z.T (rs R st) 0 fo = some (true, .fn f [])) (ha : lkAll Z.T (rs R st) ts.toList args.toList = some (true, xs)) (htr : cxs.map (X.tr [p]) = xs) (htrok : trAll [p] cxs = true)
    (hps : (rs R st).box p.n = some p.cs) (hnd : Nat.ble (p.off + p.ds.length) p.cs.length = true)
    (hs : Ctr Z f cxs [p.old] res none [p.ds]) (hc : res.clean = true) (hd : o.dst = some d) (hN : Nat.ble (d + 1) N = true) :
    LS Z N ops o { d := some (d, true, res), b := some (p.n, setAt p.cs p.off p.ds), drop := .t d :: cellPls p.n p.off p.ds.length } R st := by
  intro s2 hag _
  refine (op1_callB (ps := [p]) (st := s2) ho (gateOf_sub hag.sub hg) (lk_sub hag.sub hf) (lkAll_sub hag.sub ha) htr htrok (fun q hq => by simp at hq; subst hq; exact hag.sub.bx _ _ hps) (by simp [passB, hnd]) hs hc hd ⟨hN, rfl⟩).sub ⟨?_, ?_, ?_⟩
  · intro j e hj
    rw [ap_get] at hj
    rw [St.put_get, stores_get]
    simp only [Eff.gt] at hj
    by_cases h : d = j
    · subst h; simpa using hj
    · have h' : ¬ j = d := fun e => h e.symm
      simpa [h, h'] using hj
  · intro m ds hm
    rw [ap_box] at hm
    show (s2.store p.n (setAt p.cs p.off p.ds) p.off p.ds.length).box m = _
    rw [St.store_box]
    simp only [Eff.gb] at hm
    split
    · rename_i he; rw [if_pos he] at hm; exact hm
    · rename_i he; rw [if_neg he] at hm; exact hm
  · intro q s hq
    rw [ap_own] at hq
    rw [St.put_own]
    simp only [Eff.go, List.mem_cons] at hq
    split
    · rename_i he; rw [if_pos (.inl he)] at hq; exact hq
    · rename_i he
      show (s2.store p.n (setAt p.cs p.off p.ds) p.off p.ds.length).own q = _
      rw [St.store_own]
      split
      · rename_i h3; rw [if_pos (.inr (mem_cellPls.2 h3))] at hq; exact hq
      · rename_i h3; rw [if_neg (by rintro (h | h); exact he h; exact h3 (mem_cellPls.1 h))] at hq; exact hq

/-! ### The words of the driver in a drawn region -/
section
variable {s0 : St} {N : Nat} {ops : Array Oper} {B : List Nat} {k : Nat} {rest : List Oper} {acc : List Lnk} {st : St} {o : Oper} {Q : St → Prop} {gate : Bool} {d : Nat}
theorem dr_pure {x : X} (hk : ops[k]? = some o) (hg : gateOf ops (rs (foot ops o [] []) st) o = some gate) (hd : o.dst = some d) (hN : Nat.ble (d + 1) N = true) (hp : PureOk Z (rs (foot ops o [] []) st) o.op o.type gate x)
    (hr : Draw Z N s0 ops B (k + 1) rest (acc ++ [(k, { d := some (d, gate, x), drop := [.t d] }, foot ops o [] [])]) (ap { d := some (d, gate, x), drop := [.t d] } st) Q) : Draw Z N s0 ops B k (o :: rest) acc st Q :=
  dr_cons hk (ls_pure hg hd hN hp) hr
/-- An operation that reads a box (whose address stands in 'ax'). -/
theorem dr_box {x : X} {ax : Nat} {g : Bool} {n : Nm} {off : Nat} (hax : st.get ax = some (g, .v (.ptr n off))) (hk : ops[k]? = some o) (hg : gateOf ops (rs (foot ops o [n] []) st) o = some gate) (hd : o.dst = some d) (hN : Nat.ble (d + 1) N = true) (hp : PureOk Z (rs (foot ops o [n] []) st) o.op o.type gate x)
    (hr : Draw Z N s0 ops B (k + 1) rest (acc ++ [(k, { d := some (d, gate, x), drop := [.t d] }, foot ops o [n] [])]) (ap { d := some (d, gate, x), drop := [.t d] } st) Q) : Draw Z N s0 ops B k (o :: rest) acc st Q :=
  let _ := hax; dr_cons hk (ls_pure hg hd hN hp) hr
theorem dr_call {g gf : Bool} {fo : Operand} {args : Array Operand} {ts : Array TypeId} {f : FuncId} {caps : List Y} {xs : List X} {res : X} {ro : Option Nat} (hk : ops[k]? = some o)
    (ho : o.op = .call { callee := .value fo, args := args, argTypes := ts }) (hg : gateOf ops (rs (foot ops o [] []) st) o = some gate) (hd : o.dst = some d) (hN : Nat.ble (d + 1) N = true)
    (hf : lk Z.T (rs (foot ops o [] []) st) 0 fo = some (gf, .fn f caps)) (ha : lkAll Z.T (rs (foot ops o [] []) st) ts.toList args.toList = some (g, xs)) (hgf : gate = true → gf = true) (hga : gate = true → g = true)
    (hs : Ctr Z f (xs ++ caps.map .v) [] res ro []) (hc : res.clean = true)
    (hr : Draw Z N s0 ops B (k + 1) rest (acc ++ [(k, { d := some (d, gate, res), drop := [.t d], gain := cond gate (ro.map fun sz => (.t d, sz)) none }, foot ops o [] [])]) (ap { d := some (d, gate, res), drop := [.t d], gain := cond gate (ro.map fun sz => (.t d, sz)) none } st) Q) :
    Draw Z N s0 ops B k (o :: rest) acc st Q := dr_cons hk (ls_call ho hg hd hN hf ha hgf hga hs hc) hr
theorem dr_build {g : Bool} {t : TypeId} {len : Nat} {parts : Array (Nat × Operand)} {xs : List Operand} {ti : TyI} {e sz by' : Nat} {rws : List (List C)} (hk : ops[k]? = some o)
    (ho : o.op = .buildSlice t len parts) (hg : gateOf ops (rs (foot ops o [] []) st) o = some gate) (hd : o.dst = some d) (hN : Nat.ble (d + 1) N = true) (ht : tyAt Z.T t = some ti) (hel : ti.el = some (e, sz, by')) (hp : parts.toList = enumO 0 xs) (hx : Nat.beq xs.length len = true)
    (hrs : rowsOf Z.T (rs (foot ops o [] []) st) e sz xs = some (g, rws)) (hga : gate = true → g = true) (hbig : Nat.ble (len * sz) 10000 = true)
    (hr : Draw Z N s0 ops B (k + 1) rest (acc ++ [(k, { d := some (d, gate, .v (.c (.sl sz rws))), drop := [.t d], gain := cond gate ((some sz).map fun sz => (.t d, sz)) none }, foot ops o [] [])]) (ap { d := some (d, gate, .v (.c (.sl sz rws))), drop := [.t d], gain := cond gate ((some sz).map fun sz => (.t d, sz)) none } st) Q) :
    Draw Z N s0 ops B k (o :: rest) acc st Q := dr_cons hk (ls_buildSlice ho hg hd hN ht hel hp hx hrs hga hbig) hr
theorem dr_append {j : Nat} {x : Operand} {t : TypeId} {sz e by' : Nat} {es xs : List (List C)} {ti : TyI} (hk : ops[k]? = some o) (ho : o.op = .call { callee := .builtin .append, args := #[.tmp j, x], argTypes := #[t, t] }) (hg : gateOf ops (rs (foot ops o [] [.t j]) st) o = some true) (hd : o.dst = some d)
    (hs : (rs (foot ops o [] [.t j]) st).get j = some (true, .v (.c (.sl sz es)))) (hw : (rs (foot ops o [] [.t j]) st).own (.t j) = some sz) (hx : lk Z.T (rs (foot ops o [] [.t j]) st) t x = some (true, .v (.c (.sl sz xs))))
    (ht : tyAt Z.T t = some ti) (hel : ti.el = some (e, sz, by')) (hN : Nat.ble (d + 1) N = true) (hkd : Nat.beq j d = false) (hbig : (es.length + xs.length) * by' ≤ 140737488355328) (hmax : es.length + xs.length ≤ 9223372036854775807)
    (hr : Draw Z N s0 ops B (k + 1) rest (acc ++ [(k, { d := some (d, true, .v (.c (.sl sz (es ++ xs)))), drop := [.t d, .t j], gain := some (.t d, sz) }, foot ops o [] [.t j])]) (ap { d := some (d, true, .v (.c (.sl sz (es ++ xs)))), drop := [.t d, .t j], gain := some (.t d, sz) } st) Q) :
    Draw Z N s0 ops B k (o :: rest) acc st Q := dr_cons hk (ls_append ho hg hd hs hw hx ht hel hN hkd hbig hmax) hr
theorem dr_take {j sz : Nat} {x : X} (hk : ops[k]? = some o) (hop : o.op = .move (.tmp j) ∨ o.op = .assign (.tmp j)) (hg : gateOf ops (rs (foot ops o [] [.t j]) st) o = some true) (hd : o.dst = some d) (h : (rs (foot ops o [] [.t j]) st).get j = some (true, x)) (hw : (rs (foot ops o [] [.t j]) st).own (.t j) = some sz) (hN : Nat.ble (d + 1) N = true)
    (hr : Draw Z N s0 ops B (k + 1) rest (acc ++ [(k, { d := some (d, true, x), drop := [.t d, .t j], gain := some (.t d, sz) }, foot ops o [] [.t j])]) (ap { d := some (d, true, x), drop := [.t d, .t j], gain := some (.t d, sz) } st) Q) :
    Draw Z N s0 ops B k (o :: rest) acc st Q := dr_cons hk (ls_take hop hg hd h hw hN) hr
theorem dr_store {t : TypeId} {x v : Operand} {n : Nm} {off : Nat} {y : Y} {cs ds : List C} {ti : TyI} (hk : ops[k]? = some o) (ho : o.op = .store t x v) (hx0 : lk Z.T st t x = some (true, .v (.ptr n off))) (hg : gateOf ops (rs (foot ops o [n] []) st) o = some true) (hd : o.dst = none)
    (hx : lk Z.T (rs (foot ops o [n] []) st) t x = some (true, .v (.ptr n off))) (hv : lk Z.T (rs (foot ops o [n] []) st) t v = some (true, .v y)) (hc : y.cells = some ds)
    (hb : (rs (foot ops o [n] []) st).box n = some cs) (ht : tyAt Z.T t = some ti) (hn : ds.length = ti.n) (hl : Nat.ble (off + ds.length) cs.length = true)
    (hr : Draw Z N s0 ops B (k + 1) rest (acc ++ [(k, { b := some (n, setAt cs off ds), drop := cellPls n off ds.length }, foot ops o [n] [])]) (ap { b := some (n, setAt cs off ds), drop := cellPls n off ds.length } st) Q) :
    Draw Z N s0 ops B k (o :: rest) acc st Q := let _ := hx0; dr_cons hk (ls_store ho hg hd hx hv hc hb ht hn hl) hr
theorem dr_loadTake {t : TypeId} {x : Operand} {n : Nm} {off : Nat} {ti : TyI} {cs : List C} {c : C} {sz : Nat} (hk : ops[k]? = some o) (ho : o.op = .load t x) (h0 : lk Z.T st o.type x = some (true, .v (.ptr n off))) (hg : gateOf ops (rs (foot ops o [n] [.b n off]) st) o = some true) (hd : o.dst = some d)
    (h : lk Z.T (rs (foot ops o [n] [.b n off]) st) o.type x = some (true, .v (.ptr n off))) (ht : tyAt Z.T t = some ti) (hagg : ti.agg = false) (hb : (rs (foot ops o [n] [.b n off]) st).box n = some cs) (hc : cs[off]? = some c) (hw : (rs (foot ops o [n] [.b n off]) st).own (.b n off) = some sz) (hN : Nat.ble (d + 1) N = true)
    (hr : Draw Z N s0 ops B (k + 1) rest (acc ++ [(k, { d := some (d, true, .v (.c c)), drop := [.t d, .b n off], gain := some (.t d, sz) }, foot ops o [n] [.b n off])]) (ap { d := some (d, true, .v (.c c)), drop := [.t d, .b n off], gain := some (.t d, sz) } st) Q) :
    Draw Z N s0 ops B k (o :: rest) acc st Q := let _ := h0; dr_cons hk (ls_loadTake ho hg hd h ht hagg hb hc hw hN) hr
theorem dr_storeOwn {t : TypeId} {x : Operand} {j : Nat} {n : Nm} {off : Nat} {c : C} {cs : List C} {ti : TyI} {sz : Nat} (hk : ops[k]? = some o) (ho : o.op = .store t x (.tmp j)) (hx0 : lk Z.T st t x = some (true, .v (.ptr n off))) (hg : gateOf ops (rs (foot ops o [n] [.t j]) st) o = some true) (hd : o.dst = none)
    (hx : lk Z.T (rs (foot ops o [n] [.t j]) st) t x = some (true, .v (.ptr n off))) (hv : (rs (foot ops o [n] [.t j]) st).get j = some (true, .v (.c c)))
    (hb : (rs (foot ops o [n] [.t j]) st).box n = some cs) (ht : tyAt Z.T t = some ti) (hn : ti.n = 1) (hl : Nat.ble (off + 1) cs.length = true) (hw : (rs (foot ops o [n] [.t j]) st).own (.t j) = some sz)
    (hr : Draw Z N s0 ops B (k + 1) rest (acc ++ [(k, { b := some (n, setAt cs off [c]), drop := [.t j, .b n off], gain := some (.b n off, sz) }, foot ops o [n] [.t j])]) (ap { b := some (n, setAt cs off [c]), drop := [.t j, .b n off], gain := some (.b n off, sz) } st) Q) :
    Draw Z N s0 ops B k (o :: rest) acc st Q := let _ := hx0; dr_cons hk (ls_storeOwn ho hg hd hx hv hb ht hn hl hw) hr
theorem dr_callB {fo : Operand} {args : Array Operand} {ts : Array TypeId} {f : FuncId} {xs cxs : List X} {res : X} (p : Pass) (hk : ops[k]? = some o)
    (ho : o.op = .call { callee := .value fo, args := args, argTypes := ts }) (hg : gateOf ops (rs (foot ops o [p.n] []) st) o = some true)
    (hf : lk Z.T (rs (foot ops o [p.n] []) st) 0 fo = some (true, .fn f [])) (ha : lkAll Z.T (rs (foot ops o [p.n] []) st) ts.toList args.toList = some (true, xs)) (htr : cxs.map (X.tr [p]) = xs) (htrok : trAll [p] cxs = true)
    (hps : (rs (foot ops o [p.n] []) st).box p.n = some p.cs) (hnd : Nat.ble (p.off + p.ds.length) p.cs.length = true)
    (hs : Ctr Z f cxs [p.old] res none [p.ds]) (hc : res.clean = true) (hd : o.dst = some d) (hN : Nat.ble (d + 1) N = true)
    (hr : Draw Z N s0 ops B (k + 1) rest (acc ++ [(k, { d := some (d, true, res), b := some (p.n, setAt p.cs p.off p.ds), drop := .t d :: cellPls p.n p.off p.ds.length }, foot ops o [p.n] [])]) (ap { d := some (d, true, res), b := some (p.n, setAt p.cs p.off p.ds), drop := .t d :: cellPls p.n p.off p.ds.length } st) Q) :
    Draw Z N s0 ops B k (o :: rest) acc st Q := dr_cons hk (ls_callB ho hg hf ha htr htrok hps hnd hs hc hd hN) hr
end
end Go.Abs
