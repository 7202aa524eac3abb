/- Operations that make memory or write it: boxes, stores, literal slices; lengths with their bound; elements. -/
import Derived.Test.YtginljdgdllhfaaAbs6
import Derived.Laws.IdiomCopy
set_option linter.unusedVariables false
set_option linter.unusedSimpArgs false
namespace Go.Abs
variable {Z : Pg}

def Y.cells : Y → Option (List C)
  | .c x => some [x]
  | .agg cs => some cs
  | _ => none

theorem cells_one {v : Value} (h : v.oneCell' = true) : v.cells = #[v] := by
  cases v <;> first | rfl | simp [Value.oneCell'] at h

theorem YRep.cells {w : World} {G : Gh} {y : Y} {v : Value} {cs : List C} (h : YRep w G y v) (hc : y.cells = some cs) : All2 (CRep w G.S) cs v.cells.toList := by
  cases y with
  | c x =>
    simp [Y.cells] at hc; subst hc
    rw [cells_one (CRep.one h)]
    exact ⟨h, trivial⟩
  | agg ds =>
    simp [Y.cells] at hc; subst hc
    obtain ⟨vs, rfl, hall⟩ := h
    simpa [Value.cells] using hall
  | ro _ => simp [Y.cells] at hc
  | ptr _ _ => simp [Y.cells] at hc
  | ms _ _ _ _ => simp [Y.cells] at hc

section
variable {N : Nat} {st : St} {ty : TypeId}

theorem Rel.boxed {E : Env} {G : Gh} {a : Act} {w : World} (h : Rel E G st a w) {d : Nat} (hN : d < E.nt) (hfr : ∀ k g x, st.get k = some (g, x) → x.has (.l d) = false) {cs : List C} {vs : Array Value} {t : TypeId}
    (hv : All2 (CRep w G.S) cs vs.toList) :
    ∃ G', Rel E G' ((st.addBox (.l d) cs).put d (true, .v (.ptr (.l d) 0))) (a.put (some d) (.pointer (some ⟨w.heap.size, 0, none⟩))) (w.alloc (.cells vs t)) := by
  obtain ⟨G', hr, hA⟩ := h.newBox hfr (t := t) hv
  exact ⟨G', hr.put hN (fun _ => by show _ = _; rw [hA]) (fun hf => by simp at hf)⟩

theorem does_box {d : Nat} {t : TypeId} {x : Operand} {y : Y} {cs : List C} (h : lk Z.T st t x = some (true, .v y)) (hc : y.cells = some cs) (hN : Nat.ble (d + 1) N = true) (hfr : st.fresh (.l d) = true) :
    Does Z N st (some d) (.box t x) ty ((st.addBox (.l d) cs).put d (true, .v (.ptr (.l d) 0))) := by
  intro o E G a w hd ho _ hr hE K Q hK
  have hdN : d < E.nt := by rw [hE]; exact Nat.le_of_ble_eq_true hN
  have hx := lk_rep hr h rfl
  obtain ⟨G', hr'⟩ := hr.boxed hdN (fun _ _ _ hk => St.fresh_has hfr hk) (t := t) (hx.cells hc)
  unfold Oper.wp
  have : (execOp a.eval o).run Z.P w = .ok (.value (.pointer (some ⟨w.heap.size, 0, none⟩))) (w.alloc (.cells (a.eval x).cells t)) := by
    simp [execOp, ho, Instr.box, newVar, newRow]
  rw [this, Oper.upon_value, hd]
  exact hK G' _ _ hr'

theorem does_allocG {d : Nat} {t : TypeId} {ti : TyI} (ht : tyAt Z.T t = some ti) (hN : Nat.ble (d + 1) N = true) (hfr : ∀ k g x, st.get k = some (g, x) → x.has (.l d) = false) :
    Does Z N st (some d) (.alloc t) ty ((st.addBox (.l d) ti.z).put d (true, .v (.ptr (.l d) 0))) := by
  intro o E G a w hd ho _ hr hE K Q hK
  have hdN : d < E.nt := by rw [hE]; exact Nat.le_of_ble_eq_true hN
  obtain ⟨i, dd, zv, hi, _, _, _, hz, _, hall⟩ := (Z.tyOk ht).info
  obtain ⟨G', hr'⟩ := hr.boxed hdN hfr (t := t) (hall.mono fun c v hcv => CRep.ofConst (w := w) (S := G.S) hcv)
  unfold Oper.wp
  have : (execOp a.eval o).run Z.P w = .ok (.value (.pointer (some ⟨w.heap.size, 0, none⟩))) (w.alloc (.cells zv.cells t)) := by
    simp [execOp, ho, Instr.alloc, zeroValue, typeInfo, hi, hz, newVar, newRow]
  rw [this, Oper.upon_value, hd]
  exact hK G' _ _ hr'

theorem does_alloc {d : Nat} {t : TypeId} {ti : TyI} (ht : tyAt Z.T t = some ti) (hN : Nat.ble (d + 1) N = true) (hfr : st.fresh (.l d) = true) :
    Does Z N st (some d) (.alloc t) ty ((st.addBox (.l d) ti.z).put d (true, .v (.ptr (.l d) 0))) := does_allocG ht hN fun _ _ _ hk => St.fresh_has hfr hk

/-! ### Stores into boxes -/
def setAt (cs : List C) (off : Nat) : List C → List C
  | [] => cs
  | d :: ds => setAt (cs.set off d) (off + 1) ds
theorem setAt_length : ∀ (ds cs : List C) (off : Nat), (setAt cs off ds).length = cs.length
  | [], _, _ => rfl
  | d :: ds, cs, off => by rw [setAt, setAt_length ds]; simp
/-- Does a place lie in these cells of the box? -/
def Pl.inCells (n : Nm) (off len : Nat) : Pl → Bool
  | .b m k => Nm.beq m n && (Nat.ble off k && Nat.ble (k + 1) (off + len))
  | .t _ => false
def St.store (st : St) (n : Nm) (cs : List C) (off len : Nat) : St :=
  { t := st.t, bx := (n, cs) :: st.bx, ow := st.ow.filter fun q => !Pl.inCells n off len q.1 }
theorem St.store_box (st : St) (n : Nm) (cs : List C) (off len : Nat) (m : Nm) : (st.store n cs off len).box m = if n = m then some cs else st.box m := getB_cons _ _ _ _
theorem St.store_own (st : St) (n : Nm) (cs : List C) (off len : Nat) (p : Pl) : (st.store n cs off len).own p = if Pl.inCells n off len p = true then none else st.own p := by
  show getO (st.ow.filter fun q => !Pl.inCells n off len q.1) p = _
  rw [getO_filter (fun q => !Pl.inCells n off len q)]
  cases hb : Pl.inCells n off len p <;> simp [St.own]

theorem shape_setCell (w : World) (a : Addr) (v : Value) (b : Nat) : (w.setCell a v).shape? b = w.shape? b := by
  unfold World.shape? World.setCell
  simp only [Array.getElem?_modify]
  by_cases hb : a.block = b
  · simp only [hb, if_true]
    cases hh : w.heap[b]? with
    | none => simp
    | some x => cases x <;> simp; split <;> simp
  · simp [hb]

theorem Rel.store1 {E : Env} {G : Gh} {a : Act} {w : World} (h : Rel E G st a w) {n : Nm} {cs : List C} {k : Nat} {c : C} {v : Value} (hb : st.box n = some cs) (hk : k < cs.length) (hv : CRep w G.S c v) :
    Rel E G (st.store n (cs.set k c) k 1) a (w.setCell ⟨(G.A n).1, (G.A n).2 + k, none⟩ v) := by
  have hkc : cs[k]? = some cs[k] := List.getElem?_eq_getElem hk
  obtain ⟨hW, hfz, u, hu, _⟩ := h.bx n cs hb k _ hkc
  have hne : ∀ b o, G.W b o ≠ .box n → (w.setCell ⟨(G.A n).1, (G.A n).2 + k, none⟩ v).cell? ⟨b, o, none⟩ = w.cell? ⟨b, o, none⟩ := fun b o hbo =>
    World.cell?_setCell_other _ _ _ _ (by
      intro he; simp at he; obtain ⟨rfl, rfl⟩ := he; exact hbo hW)
  have hS : ∀ b o, G.S b o → (w.setCell ⟨(G.A n).1, (G.A n).2 + k, none⟩ v).cell? ⟨b, o, none⟩ = w.cell? ⟨b, o, none⟩ := fun b o hs => hne b o (by unfold Gh.S at hs; rw [hs]; simp)
  have hsame : (w.setCell ⟨(G.A n).1, (G.A n).2 + k, none⟩ v).cell? ⟨(G.A n).1, (G.A n).2 + k, none⟩ = some v := World.cell?_setCell_same _ _ _ hu
  have hoth : ∀ j, j ≠ k → (w.setCell ⟨(G.A n).1, (G.A n).2 + k, none⟩ v).cell? ⟨(G.A n).1, (G.A n).2 + j, none⟩ = w.cell? ⟨(G.A n).1, (G.A n).2 + j, none⟩ := fun j hj =>
    World.cell?_setCell_other _ _ _ _ (by simp; omega)
  constructor
  · exact h.df
  · intro j g x hj
    obtain ⟨u', hu', h1, h2⟩ := h.tm j g x hj
    exact ⟨u', hu', fun hg => (h1 hg).mono (fun _ _ hs => hs) hS (fun _ _ => rfl), h2⟩
  · intro m ds hm j c' hj
    rw [St.store_box] at hm
    split at hm
    · rename_i he; subst he
      simp only [Option.some.injEq] at hm; subst hm
      by_cases hjk : j = k
      · subst hjk
        rw [List.getElem?_set_self hk] at hj
        simp only [Option.some.injEq] at hj; subst hj
        exact ⟨hW, by rw [World.frozen?_setCell]; exact hfz, v, hsame, hv.mono (fun _ _ hs => hs) hS⟩
      · rw [List.getElem?_set_ne (fun e => hjk e.symm)] at hj
        obtain ⟨q1, q2, u', q3, q4⟩ := h.bx n cs hb j c' hj
        exact ⟨q1, by rw [World.frozen?_setCell]; exact q2, u', by rw [hoth j hjk]; exact q3, q4.mono (fun _ _ hs => hs) hS⟩
    · rename_i hnm
      obtain ⟨q1, q2, u', q3, q4⟩ := h.bx m ds hm j c' hj
      exact ⟨q1, by rw [World.frozen?_setCell]; exact q2, u', by rw [hne _ _ (by rw [q1]; intro e; injection e with e; exact hnm e.symm)]; exact q3, q4.mono (fun _ _ hs => hs) hS⟩
  · intro p sz hp
    rw [St.store_own] at hp
    split at hp
    · simp at hp
    · rename_i hin
      obtain ⟨u', hu', ho⟩ := h.ow p sz hp
      refine ⟨u', ?_, ?_⟩
      · cases p with
        | t j => exact hu'
        | b m off =>
          refine ⟨?_, hu'.2⟩
          by_cases hm : m = n
          · subst hm
            have : off ≠ k := fun e => hin (by subst e; simp [Pl.inCells, Nm.beq_self])
            rw [hoth off this]
            exact hu'.1
          · rw [hne _ _ (by rw [hu'.2]; intro e; injection e with e; exact hm e)]
            exact hu'.1
      · rcases ho with ho | ⟨blk, len, cap, e, q1, q2, q3, q4⟩
        · exact .inl ho
        · exact .inr ⟨blk, len, cap, e, q1, q2, by rw [shape_setCell]; exact q3, fun o ho1 ho2 => by rw [World.frozen?_setCell]; exact q4 o ho1 ho2⟩
  · intro b o hbo
    rw [World.size_setCell]; exact h.wf b o hbo
  · exact h.olB
  · exact h.olO
  · exact h.nt
  · exact h.oA
  · exact h.im
  · exact h.im'
  · refine h.fr.trans ⟨rfl, rfl, rfl, by simp, ?_, ?_, ?_, ?_⟩
    · intro b hbB hM
      refine RowKit.Below.heap_setCell _ _ _ _ ?_
      intro e
      subst e
      exact hM _ (h.olB _ _ n hbB hW)
    · intro b o hbB hM
      refine hne b o ?_
      intro e
      exact hM (h.olB b o n hbB e)
    · intro b o _; exact World.frozen?_setCell _ _ _ _
    · intro b _; exact shape_setCell _ _ _ _
  · exact h.hB
  · exact h.lo
end
end Go.Abs
