/- Stores, ownership, literal slices and structs, parts of slices. -/
import Derived.Test.YtginljdgdllhfaaAbs8
set_option linter.unusedVariables false
set_option linter.unusedSimpArgs false
namespace Go.Abs
variable {Z : Pg}
section
variable {N : Nat} {st : St} {ty : TypeId} {gate : Bool}

theorem Rel.storeAll {E : Env} {G : Gh} {a : Act} {n : Nm} : ∀ (ds : List C) (vs : List Value) {w : World} {st : St} {cs : List C} {off : Nat}, Rel E G st a w → st.box n = some cs → off + ds.length ≤ cs.length → All2 (CRep w G.S) ds vs →
    Rel E G (st.store n (setAt cs off ds) off ds.length) a (w.setCells (G.A n).1 ((G.A n).2 + off) vs)
  | [], [], w, st, cs, off, h, hb, _, _ => by
    refine Rel.sub (st := st) ⟨fun _ _ x => x, ?_, ?_⟩ h
    · intro m ds hm
      rw [St.store_box] at hm
      split at hm
      · rename_i he; subst he; simp [setAt] at hm; subst hm; exact hb
      · exact hm
    · intro p sz hp
      rw [St.store_own] at hp
      split at hp
      · simp at hp
      · exact hp
  | d :: ds, v :: vs, w, st, cs, off, h, hb, hl, hall => by
    have hk : off < cs.length := by simp at hl; omega
    have h1 := h.store1 hb hk hall.1
    have hS : ∀ b o, G.S b o → (w.setCell ⟨(G.A n).1, (G.A n).2 + off, none⟩ v).cell? ⟨b, o, none⟩ = w.cell? ⟨b, o, none⟩ := fun b o hs =>
      World.cell?_setCell_other _ _ _ _ (by
        intro he; simp at he; obtain ⟨rfl, rfl⟩ := he
        have := (h.bx n cs hb off _ (List.getElem?_eq_getElem hk)).1
        unfold Gh.S at hs; rw [this] at hs; simp at hs)
    have h2 := Rel.storeAll ds vs (off := off + 1) h1 (by rw [St.store_box, if_pos rfl]) (by simp at hl ⊢; omega) (hall.2.mono fun c u hc => hc.mono (fun _ _ hs => hs) hS)
    have hw : (w.setCells (G.A n).1 ((G.A n).2 + off) (v :: vs)) = ((w.setCell ⟨(G.A n).1, (G.A n).2 + off, none⟩ v).setCells (G.A n).1 ((G.A n).2 + (off + 1)) vs) := by
      rw [World.setCells, ← Nat.add_assoc]
    rw [hw]
    refine Rel.sub (st := (st.store n (cs.set off d) off 1).store n (setAt (cs.set off d) (off + 1) ds) (off + 1) ds.length) ⟨fun _ _ x => x, ?_, ?_⟩ h2
    · intro m es hm
      rw [St.store_box] at hm ⊢
      split at hm
      · rename_i he; rw [if_pos he]; exact hm
      · rename_i he; rw [if_neg he, St.store_box, if_neg he]; exact hm
    · intro p sz hp
      rw [St.store_own] at hp ⊢
      split at hp
      · simp at hp
      · rename_i hin
        have e1 : Pl.inCells n (off + 1) ds.length p = false := by
          cases p with
          | t k => rfl
          | b m k =>
            simp only [Pl.inCells, Bool.not_eq_true] at hin ⊢
            cases hm : Nm.beq m n with
            | false => simp
            | true =>
              simp only [hm, Bool.true_and] at hin ⊢
              simp only [Bool.and_eq_false_iff] at hin ⊢
              simp only [List.length_cons] at hin
              rcases hin with hin | hin
              · left
                have : ¬ off ≤ k := by intro hle; have := Nat.ble_eq_true_of_le hle; rw [hin] at this; simp at this
                cases hb2 : Nat.ble (off + 1) k with
                | false => rfl
                | true => have := Nat.le_of_ble_eq_true hb2; omega
              · right
                have : ¬ k + 1 ≤ off + (ds.length + 1) := by intro hle; have := Nat.ble_eq_true_of_le hle; rw [hin] at this; simp at this
                cases hb2 : Nat.ble (k + 1) (off + 1 + ds.length) with
                | false => rfl
                | true => have := Nat.le_of_ble_eq_true hb2; omega
        have e2 : Pl.inCells n off 1 p = false := by
          cases p with
          | t k => rfl
          | b m k =>
            simp only [Pl.inCells, Bool.not_eq_true] at hin ⊢
            cases hm : Nm.beq m n with
            | false => simp
            | true =>
              simp only [hm, Bool.true_and] at hin ⊢
              simp only [Bool.and_eq_false_iff] at hin ⊢
              simp only [List.length_cons] at hin
              rcases hin with hin | hin
              · exact .inl hin
              · right
                have : ¬ k + 1 ≤ off + (ds.length + 1) := by intro hle; have := Nat.ble_eq_true_of_le hle; rw [hin] at this; simp at this
                cases hb2 : Nat.ble (k + 1) (off + 1) with
                | false => rfl
                | true => have := Nat.le_of_ble_eq_true hb2; omega
        rw [e1, St.store_own, e2]
        simpa using hp
  | [], _ :: _, _, _, _, _, _, _, _, hall => hall.elim
  | _ :: _, [], _, _, _, _, _, _, _, hall => hall.elim

theorem cells_there {w : World} {G : Gh} {n : Nm} {cs : List C} (h : BoxAt w G n cs) {off len : Nat} (hl : off + len ≤ cs.length) :
    (∀ j, j < len → (w.cell? ⟨(G.A n).1, (G.A n).2 + off + 0 + j, none⟩).isSome = true) ∧ (∀ j, j < len → w.frozen? ⟨(G.A n).1, (G.A n).2 + off + 0 + j, none⟩ = false) := by
  refine ⟨fun j hj => ?_, fun j hj => ?_⟩
  · obtain ⟨_, _, v, hv, _⟩ := h (off + j) _ (List.getElem?_eq_getElem (by omega))
    rw [show (G.A n).2 + off + 0 + j = (G.A n).2 + (off + j) by omega, hv]; rfl
  · obtain ⟨_, hf, _⟩ := h (off + j) _ (List.getElem?_eq_getElem (by omega))
    rw [show (G.A n).2 + off + 0 + j = (G.A n).2 + (off + j) by omega]; exact hf

theorem run_store_box {E : Env} {G : Gh} {a : Act} {w : World} (h : Rel E G st a w) {n : Nm} {cs ds : List C} {off : Nat} {t : TypeId} {ti : TyI} {v : Value} (hb : st.box n = some cs) (hl : off + ds.length ≤ cs.length)
    (ht : tyAt Z.T t = some ti) (hn : ds.length = ti.n) (hall : All2 (CRep w G.S) ds v.cells.toList) :
    (Instr.storeAt t (.pointer (some ⟨(G.A n).1, (G.A n).2 + off, none⟩)) v).run Z.P w = .ok () (w.setCells (G.A n).1 ((G.A n).2 + off) v.cells.toList) := by
  obtain ⟨i, d, zv, hi, hd, hsz, hrow, _⟩ := (Z.tyOk ht).info
  have hlen := hall.len
  obtain ⟨q1, q2⟩ := cells_there (h.bx n cs hb) hl
  have hrun := run_storeCells_cells (P := Z.P) (G.A n).1 ((G.A n).2 + off) v.cells.toList 0 w (fun j hj => q1 j (by omega)) (fun j hj => q2 j (by omega)) (by
    intro u hu
    obtain ⟨j, hj⟩ := List.getElem?_of_mem hu
    have hjl : j < ds.length := by rw [hlen]; exact (List.getElem?_eq_some_iff.1 hj).1
    obtain ⟨u', hu', hc⟩ := hall.get j _ (List.getElem?_eq_getElem hjl)
    rw [hj] at hu'; simp at hu'; subst hu'
    exact hc.one)
  rw [Nat.add_zero] at hrun
  have hs : v.cells.size = i.size := by rw [hsz, ← hn, hlen]; simp
  simp [Instr.storeAt, Instr.sureAddr, storeVar, sizeOf, typeInfo, hi, hs, hrun]

/-- A store into a box. -/
theorem does_store {t : TypeId} {x v : Operand} {n : Nm} {off : Nat} {y : Y} {cs ds : List C} {ti : TyI} (hx : lk Z.T st t x = some (true, .v (.ptr n off))) (hv : lk Z.T st t v = some (true, .v y)) (hc : y.cells = some ds)
    (hb : st.box n = some cs) (ht : tyAt Z.T t = some ti) (hn : ds.length = ti.n) (hl : Nat.ble (off + ds.length) cs.length = true) :
    Does Z N st none (.store t x v) ty (st.store n (setAt cs off ds) off ds.length) := by
  intro o E G a w hd ho _ hr hE K Q hK
  have h1 : a.eval x = _ := lk_rep hr hx rfl
  have h2 := (lk_rep hr hv rfl).cells hc
  have hl' := Nat.le_of_ble_eq_true hl
  have hrun := run_store_box hr hb hl' ht hn h2
  unfold Oper.wp
  have : (execOp a.eval o).run Z.P w = .ok .skip (w.setCells (G.A n).1 ((G.A n).2 + off) (a.eval v).cells.toList) := by
    simp [execOp, ho, h1, hrun]
  rw [this, Oper.upon_skip, hd]
  exact hK G undef _ (hr.storeAll ds _ hb hl' h2)

/-! ### Ownership handed on -/
def Gh.relabel (G : Gh) (p q : Pl) : Gh := { G with W := fun b o => match G.W b o with | .own r => if r = p then .own q else .own r | x => x }
theorem Gh.relabel_imm (G : Gh) (p q : Pl) (b o : Nat) : (G.relabel p q).W b o = .imm ↔ G.W b o = .imm := by
  unfold Gh.relabel; dsimp only
  cases G.W b o <;> simp
  split <;> simp
theorem Gh.relabel_box (G : Gh) (p q : Pl) (b o : Nat) (n : Nm) : (G.relabel p q).W b o = .box n ↔ G.W b o = .box n := by
  unfold Gh.relabel; dsimp only
  cases G.W b o <;> simp
  split <;> simp
theorem Gh.relabel_none (G : Gh) (p q : Pl) (b o : Nat) : (G.relabel p q).W b o = .none ↔ G.W b o = .none := by
  unfold Gh.relabel; dsimp only
  cases G.W b o <;> simp
  split <;> simp
theorem Gh.relabel_own (G : Gh) (p q : Pl) (b o : Nat) (r : Pl) (h : G.W b o = .own r) : (G.relabel p q).W b o = .own (if r = p then q else r) := by
  unfold Gh.relabel; dsimp only
  rw [h]; dsimp only
  split <;> rfl

/-- The state in which no place owns what 'p' owned. -/
def St.unown (st : St) (p : Pl) : St := { st with ow := st.ow.filter fun q => !Pl.beq q.1 p }
theorem St.unown_own (st : St) (p r : Pl) : (st.unown p).own r = if r = p then none else st.own r := by
  show getO (st.ow.filter fun q => !Pl.beq q.1 p) r = _
  rw [getO_filter (fun q => !Pl.beq q p)]
  by_cases h : r = p
  · subst h; simp [Pl.beq_self]
  · simp [h, Pl.beq_ne h, St.own]

/-- The owner is renamed: what 'p' owned belongs to 'q' now (which must own nothing, and bear the same slice). -/
theorem Rel.relabel {E : Env} {G : Gh} {a : Act} {w : World} (h : Rel E G st a w) {p q : Pl} {sz : Nat} {v : Value} (hp : OwnAt w G p sz v) (hq : st.own q = none) (hv : ValAt a w G q v) :
    Rel E (G.relabel p q) ((st.unown p).addOwn q sz) a w := by
  have hS : ∀ b o, G.S b o → (G.relabel p q).S b o := fun b o hs => (G.relabel_imm p q b o).2 hs
  constructor
  · exact h.df
  · intro k g x hk
    obtain ⟨u, hu, h1, h2⟩ := h.tm k g x hk
    exact ⟨u, hu, fun hg => (h1 hg).mono hS (fun _ _ _ => rfl) (fun _ _ => rfl), h2⟩
  · intro n cs hn j c hj
    obtain ⟨q1, q2, u, q3, q4⟩ := h.bx n cs hn j c hj
    exact ⟨(G.relabel_box p q _ _ n).2 q1, q2, u, q3, q4.mono hS (fun _ _ _ => rfl)⟩
  · intro r s hr
    rw [St.addOwn_own] at hr
    split at hr
    · rename_i he; subst he
      simp only [Option.some.injEq] at hr; subst hr
      refine ⟨v, ?_, ?_⟩
      · cases q with
        | t k => exact hv
        | b n off => exact ⟨hv.1, (G.relabel_box _ _ _ _ n).2 hv.2⟩
      · rcases hp with hp | ⟨blk, len, cap, e, q1, q2, q3, q4⟩
        · exact .inl hp
        · exact .inr ⟨blk, len, cap, e, q1, q2, q3, fun o ho1 ho2 => by
            obtain ⟨q5, q6⟩ := q4 o ho1 ho2
            exact ⟨by rw [G.relabel_own p q _ _ p q5, if_pos rfl], q6⟩⟩
    · rw [St.unown_own] at hr
      split at hr
      · simp at hr
      · rename_i hrp
        obtain ⟨u, hu, ho⟩ := h.ow r s hr
        refine ⟨u, ?_, ?_⟩
        · cases r with
          | t k => exact hu
          | b n off => exact ⟨hu.1, (G.relabel_box _ _ _ _ n).2 hu.2⟩
        · rcases ho with ho | ⟨blk, len, cap, e, q1, q2, q3, q4⟩
          · exact .inl ho
          · exact .inr ⟨blk, len, cap, e, q1, q2, q3, fun o ho1 ho2 => by
              obtain ⟨q5, q6⟩ := q4 o ho1 ho2
              exact ⟨by rw [G.relabel_own p q _ _ r q5, if_neg hrp], q6⟩⟩
  · intro b o hb
    exact h.wf b o fun e => hb ((G.relabel_none p q b o).2 e)
  · intro b o n hb hn
    exact h.olB b o n hb ((G.relabel_box p q b o n).1 hn)
  · intro b o r hb hn
    cases hw : G.W b o with
    | own r' => exact h.olO b o r' hb hw
    | none => rw [(G.relabel_none p q b o).2 hw] at hn; simp at hn
    | imm => rw [(G.relabel_imm p q b o).2 hw] at hn; simp at hn
    | box n => rw [(G.relabel_box p q b o n).2 hw] at hn; simp at hn
  · exact h.nt
  · exact h.oA
  · intro b o hi; exact hS b o (h.im b o hi)
  · intro b o hb hi; exact h.im' b o hb ((G.relabel_imm p q b o).1 hi)
  · exact h.fr
  · exact h.hB
  · intro b o hb
    refine ⟨fun k hk => (h.lo b o hb).1 k ((G.relabel_box p q b o _).1 hk), fun r hr => ?_⟩
    cases hw : G.W b o with
    | own r' => exact (h.lo b o hb).2 r' hw
    | none => rw [(G.relabel_none p q b o).2 hw] at hr; simp at hr
    | imm => rw [(G.relabel_imm p q b o).2 hw] at hr; simp at hr
    | box n => rw [(G.relabel_box p q b o n).2 hw] at hr; simp at hr

/-- 'd := k' (a move or an assignment) that hands the ownership on. -/
def St.take (st : St) (d k : Nat) (x : X) (sz : Nat) : St := ((st.put d (true, x)).unown (.t k)).addOwn (.t d) sz
theorem does_take {d k : Nat} {x : X} {sz : Nat} {op : Op} (hop : op = .move (.tmp k) ∨ op = .assign (.tmp k)) (h : st.get k = some (true, x)) (hw : st.own (.t k) = some sz) (hN : Nat.ble (d + 1) N = true) :
    Does Z N st (some d) op ty (st.take d k x sz) := by
  intro o E G a w hd ho _ hr hE K Q hK
  have hdN : d < E.nt := by rw [hE]; exact Nat.le_of_ble_eq_true hN
  obtain ⟨v, hv, h1, _⟩ := hr.tm k true x h
  obtain ⟨v', hv', ho'⟩ := hr.ow _ _ hw
  have : v' = v := by
    have hv2 : a.tmps[k]? = some v' := hv'
    rw [hv] at hv2; simpa using hv2.symm
  subst this
  have hev : a.eval (.tmp k) = v' := by simp [Act.eval, Array.getD_eq_getD_getElem?, hv]
  have hrun : (execOp a.eval o).run Z.P w = .ok (.value v') w := by
    rcases hop with hop | hop <;> simp [execOp, ho, hop, hev]
  unfold Oper.wp
  rw [hrun, Oper.upon_value, hd]
  have hput := hr.put hdN (g := true) (v := v') (fun _ => h1 rfl) (fun hf => by simp at hf)
  refine hK (G.relabel (.t k) (.t d)) v' w (hput.relabel ho' ?_ ?_)
  · rw [St.put_own, if_pos rfl]
  · show (a.put (some d) v').tmps[d]? = _
    rw [act_put_get (by rw [hr.nt]; exact hdN)]; simp

/-- A load of a slice out of a box that hands the ownership on. -/
theorem does_loadTake {d : Nat} {t : TypeId} {x : Operand} {n : Nm} {off : Nat} {ti : TyI} {cs : List C} {c : C} {sz : Nat} (h : lk Z.T st ty x = some (true, .v (.ptr n off)))
    (ht : tyAt Z.T t = some ti) (hagg : ti.agg = false) (hb : st.box n = some cs) (hc : cs[off]? = some c) (hw : st.own (.b n off) = some sz) (hN : Nat.ble (d + 1) N = true) :
    Does Z N st (some d) (.load t x) ty (((st.put d (true, .v (.c c))).unown (.b n off)).addOwn (.t d) sz) := by
  intro o E G a w hd ho hty hr hE K Q hK
  have hdN : d < E.nt := by rw [hE]; exact Nat.le_of_ble_eq_true hN
  have h1 : a.eval x = _ := lk_rep hr h rfl
  obtain ⟨_, _, v, hv, hcr⟩ := hr.bx n cs hb off c hc
  obtain ⟨v', hv', ho'⟩ := hr.ow _ _ hw
  have : v' = v := by have := hv'.1; rw [hv] at this; simpa using this.symm
  subst this
  unfold Oper.wp
  have hrun : (execOp a.eval o).run Z.P w = .ok (.value v') w := by simp [execOp, ho, h1, run_load_cell ht hagg hv]
  rw [hrun, Oper.upon_value, hd]
  have hput := hr.put hdN (g := true) (x := .v (.c c)) (v := v') (fun _ => hcr) (fun hf => by simp at hf)
  refine hK (G.relabel (.b n off) (.t d)) v' w (hput.relabel ho' ?_ ?_)
  · rw [St.put_own, if_pos rfl]
  · show (a.put (some d) v').tmps[d]? = _
    rw [act_put_get (by rw [hr.nt]; exact hdN)]; simp

theorem get_setAt1 {cs : List C} {off : Nat} {c : C} (h : off < cs.length) : (setAt cs off [c])[off]? = some c := by simp [setAt, h]
/-- A store of a slice into a box that hands the ownership on. -/
theorem does_storeOwn {t : TypeId} {x : Operand} {k : Nat} {n : Nm} {off : Nat} {c : C} {cs : List C} {ti : TyI} {sz : Nat} (hx : lk Z.T st t x = some (true, .v (.ptr n off))) (hv : st.get k = some (true, .v (.c c)))
    (hb : st.box n = some cs) (ht : tyAt Z.T t = some ti) (hn : ti.n = 1) (hl : Nat.ble (off + 1) cs.length = true) (hw : st.own (.t k) = some sz) :
    Does Z N st none (.store t x (.tmp k)) ty (((st.store n (setAt cs off [c]) off 1).unown (.t k)).addOwn (.b n off) sz) := by
  intro o E G a w hd ho _ hr hE K Q hK
  have h1 : a.eval x = _ := lk_rep hr hx rfl
  have hv0 : lk Z.T st t (.tmp k) = some (true, .v (.c c)) := hv
  have h2 : All2 (CRep w G.S) [c] (a.eval (.tmp k)).cells.toList := (show YRep w G (.c c) _ from lk_rep hr hv0 rfl).cells rfl
  have hl' := Nat.le_of_ble_eq_true hl
  have hrun := run_store_box hr hb (ds := [c]) hl' ht (by simp [hn]) h2
  obtain ⟨v', hv', ho'⟩ := hr.ow _ _ hw
  have hev : a.eval (.tmp k) = v' := by
    have hv2 : a.tmps[k]? = some v' := hv'
    simp [Act.eval, Array.getD_eq_getD_getElem?, hv2]
  have h1c : v'.cells = #[v'] := by
    obtain ⟨u, hu, hcr⟩ := h2.get 0 c rfl
    have hrep : CRep w G.S c (a.eval (.tmp k)) := lk_rep hr hv0 rfl
    rw [hev] at hrep
    exact cells_one hrep.one
  unfold Oper.wp
  have : (execOp a.eval o).run Z.P w = .ok .skip (w.setCells (G.A n).1 ((G.A n).2 + off) (a.eval (.tmp k)).cells.toList) := by
    simp [execOp, ho, h1, hrun]
  rw [this, Oper.upon_skip, hd]
  have hst := hr.storeAll [c] _ hb hl' h2
  have hin : Pl.inCells n off 1 (.b n off) = true := by
    simp [Pl.inCells, Nm.beq_self]
  have hown' : (st.store n (setAt cs off [c]) off [c].length).own (.t k) = some sz := by
    rw [St.store_own]; simp [Pl.inCells, hw]
  obtain ⟨v2, hv2, ho2⟩ := hst.ow _ _ hown'
  have : v2 = v' := by
    have e1 : a.tmps[k]? = some v2 := hv2
    have e2 : a.tmps[k]? = some v' := hv'
    rw [e1] at e2; simpa using e2
  subst this
  refine hK (G.relabel (.t k) (.b n off)) undef _ (Rel.putNone (hst.relabel ho2 ?_ ?_) undef)
  · rw [St.store_own]; simp [hin]
  · obtain ⟨q1, _, u, q3, q4⟩ := hst.bx n (setAt cs off [c]) (by rw [St.store_box, if_pos rfl]) off c (get_setAt1 (by omega))
    refine ⟨?_, q1⟩
    rw [hev, h1c]
    have hcell := hr.bx n cs hb off _ (List.getElem?_eq_getElem (by omega))
    obtain ⟨_, _, u0, hu0, _⟩ := hcell
    simp only [World.setCells]
    exact World.cell?_setCell_same _ _ _ hu0
end
end Go.Abs
