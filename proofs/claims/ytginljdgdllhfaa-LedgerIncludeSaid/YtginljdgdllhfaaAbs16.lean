/- Struct values, the greater and the lesser of two numbers, nil slices that are owned, and calls that hand boxes on. -/
import Derived.Test.YtginljdgdllhfaaAbs15
import Derived.Laws.Tables
import Derived.Laws.Small
import Derived.DataReads
import Derived.MapFrom
set_option linter.unusedVariables false
set_option linter.unusedSimpArgs false
namespace Go.Abs
variable {Z : Pg}

theorem TyOk.fields {P : Program} {t : TypeId} {ti : TyI} {fs : Array Field} (h : tyB P t ti = true) (hu : P.underlying t = some (.struct fs)) :
    ∃ i zv, P.info? t = some i ∧ i.zero = some zv ∧ All2 (fun c v => constV c v = true) ti.z zv.cells.toList ∧ ∀ f ∈ fs.toList, ∃ j, P.info? f.type = some j := by
  unfold tyB at h
  split at h
  · rename_i i d hi hd
    rw [hu] at hd
    simp only [Option.some.injEq] at hd
    subst hd
    simp only [Bool.and_eq_true, beq_iff_eq] at h
    obtain ⟨⟨⟨_, _⟩, h3⟩, ⟨h4, h5⟩, _⟩ := h
    split at h3
    · rename_i zv hz
      simp only [Bool.and_eq_true, beq_iff_eq] at h3
      refine ⟨i, zv, hi, hz, All2.ofB h3.2, ?_⟩
      intro f hf
      obtain ⟨j, hj⟩ := List.getElem?_of_mem hf
      have hal := All2.ofB h5
      have hlt : j < ti.offs.length := by rw [hal.len]; exact (List.getElem?_eq_some_iff.1 hj).1
      obtain ⟨f', hf', hr⟩ := hal.get j _ (List.getElem?_eq_getElem hlt)
      rw [hj] at hf'
      simp only [Option.some.injEq] at hf'
      subst hf'
      simp only [Bool.and_eq_true] at hr
      obtain ⟨_, hr2⟩ := hr
      split at hr2
      · rename_i k hk; exact ⟨k, hk⟩
      · simp at hr2
    · simp at h3
  · simp at h

def buildC (T : List (Option TyI)) (st : St) (fs : List Field) : List (Nat × Operand) → List C → Option (Bool × List C)
  | [], acc => some (true, acc)
  | (i, x) :: r, acc => match fs[i]? with
    | some f => (match tyAt T f.type with
      | some tj => (match lk T st f.type x with
        | some (g, .v y) => (match y.cells with
          | some cs => cond (Nat.beq cs.length tj.n && Nat.ble (f.offset + cs.length) acc.length)
              (match buildC T st fs r (setAt acc f.offset cs) with | some (g', out) => some (g && g', out) | none => none) none
          | none => none)
        | _ => none)
      | none => none)
    | none => none

section
variable {st : St} {ty : TypeId} {gate : Bool} {N : Nat} {ops : Array Oper} {o : Oper} {d : Nat} {K : St → Prop}

theorem buildC_fill {E : Env} {G : Gh} {a : Act} {w : World} (hr : Rel E G st a w) {fs : List Field} {place : Nat → Option (Nat × Nat)}
    (hpl : ∀ (i : Nat) (f : Field) (tj : TyI), fs[i]? = some f → tyAt Z.T f.type = some tj → place i = some (f.offset, tj.n)) :
    ∀ {parts : List (Nat × Operand)} {acc out : List C} {g : Bool} {cells : Array Value}, buildC Z.T st fs parts acc = some (g, out) → g = true → All2 (CRep w G.S) acc cells.toList →
      ∃ cells', Instr.fill place cells (parts.map fun (i, x) => (i, a.eval x)) = some cells' ∧ All2 (CRep w G.S) out cells'.toList
  | [], acc, out, g, cells, h, _, hc => by
    simp only [buildC, Option.some.injEq, Prod.mk.injEq] at h
    obtain ⟨_, rfl⟩ := h
    exact ⟨cells, rfl, hc⟩
  | (i, x) :: r, acc, out, g, cells, h, hg, hc => by
    simp only [buildC] at h
    split at h
    · rename_i f hf
      split at h
      · rename_i tj htj
        split at h
        · rename_i g1 y hy
          split at h
          · rename_i cs hcs
            cases hb : (Nat.beq cs.length tj.n && Nat.ble (f.offset + cs.length) acc.length) with
            | false => rw [hb] at h; simp at h
            | true =>
              rw [hb, cond_true] at h
              rw [Bool.and_eq_true] at hb
              split at h
              · rename_i g2 out2 h2
                simp only [Option.some.injEq, Prod.mk.injEq] at h
                obtain ⟨rfl, rfl⟩ := h
                rw [Bool.and_eq_true] at hg
                have hrep := (show YRep w G y (a.eval x) from lk_rep hr hy hg.1).cells hcs
                have hn := Nat.eq_of_beq_eq_true hb.1
                have hl := Nat.le_of_ble_eq_true hb.2
                have hsz : (a.eval x).cells.size = tj.n := by rw [← Array.length_toList, ← hrep.len, hn]
                have hcl : acc.length = cells.size := by rw [hc.len, Array.length_toList]
                have hfit : f.offset + (a.eval x).cells.size ≤ cells.size := by rw [hsz, ← hn]; omega
                obtain ⟨q1, q2⟩ := foldl_cells f.offset (a.eval x) cells hfit
                obtain ⟨cells', h3, h4⟩ := buildC_fill hr hpl (parts := r) (cells := (a.eval x).cells.zipIdx.foldl (fun cs (c, j) => cs.setIfInBounds (f.offset + j) c) cells) h2 hg.2 (by
                  refine All2.mk ((setAt_length _ _ _).trans (hcl.trans (q1.symm.trans Array.length_toList.symm))) ?_
                  intro j c v hj hv
                  rw [Array.getElem?_toList, q2 j] at hv
                  rw [setAt_get _ _ _ _ hl] at hj
                  rw [hsz, ← hn] at hv
                  split at hj
                  · rename_i hin
                    rw [if_pos hin] at hv
                    obtain ⟨v', hv', hr'⟩ := hrep.get _ _ hj
                    rw [Array.getElem?_toList, hv] at hv'
                    simp only [Option.some.injEq] at hv'
                    subst hv'
                    exact hr'
                  · rename_i hin
                    rw [if_neg hin] at hv
                    obtain ⟨v', hv', hr'⟩ := hc.get _ _ hj
                    rw [Array.getElem?_toList, hv] at hv'
                    simp only [Option.some.injEq] at hv'
                    subst hv'
                    exact hr')
                refine ⟨cells', ?_, h4⟩
                simp only [List.map_cons, Instr.fill, hpl i f tj hf htj]
                have hno : ¬ ((a.eval x).cells.size ≠ tj.n ∨ f.offset + (a.eval x).cells.size > cells.size) := by
                  rintro (h | h)
                  · exact h hsz
                  · omega
                rw [if_neg (by simpa using hno)]
                exact h3
              · simp at h
          · simp at h
        · simp at h
      · simp at h
    · simp at h

theorem pure_build {t : TypeId} {parts : Array (Nat × Operand)} {fs : Array Field} {ti : TyI} {g : Bool} {out : List C} (ht : tyAt Z.T t = some ti) (hu : Z.P.underlying t = some (.struct fs))
    (hb : buildC Z.T st fs.toList parts.toList ti.z = some (g, out)) (hg : gate = true → g = true) : PureOk Z st (.build t parts) ty gate (.v (.agg out)) := by
  intro o E G a w ho _ hr hgt
  obtain ⟨i, zv, hi, hz, hzv, hall⟩ := TyOk.fields (Z.ty ht) hu
  obtain ⟨places, hp⟩ := MapFrom.mapM_some (f := fun f => (Z.P.info? f.type).map fun i => (f.offset, i.size)) (l := fs.toList) (fun f hf => by
    obtain ⟨j, hj⟩ := hall f hf
    exact ⟨_, by rw [hj]; rfl⟩)
  obtain ⟨cells, h1, h2⟩ := buildC_fill hr (place := (places.toArray[·]?)) (fun k f tj hk htj => by
    have := mapM_some_get hp k f hk
    obtain ⟨j, _, _, hj, _, hn, _⟩ := (Z.tyOk htj).info
    rw [hj] at this
    simp only [List.getElem?_toArray]
    rw [← this, ← hn]; rfl) hb (hg hgt) (hzv.mono fun c v hcv => CRep.ofConst (w := w) (S := G.S) hcv)
  refine ⟨.agg cells, ⟨cells.toList, by simp, h2⟩, ?_⟩
  have hbuilt : Z.P.built t (parts.map fun (i, x) => (i, a.eval x)).toList = some cells := by
    unfold Program.built
    simp only [hi, hu, hz, hp]
    rw [Array.toList_map]
    exact h1
  simp only [execOp, ho]
  simp [run_build w t _ cells hbuilt]

theorem pure_max {x y : Operand} {ts : Array TypeId} {gx gy : Bool} {k k' : IntKind} {m n : Int} (hx : lk Z.T st ty x = some (gx, .v (.c (.i k m)))) (hy : lk Z.T st ty y = some (gy, .v (.c (.i k' n))))
    (hgx : gate = true → gx = true) (hgy : gate = true → gy = true) : PureOk Z st (.call { callee := .builtin .max, args := #[x, y], argTypes := ts }) ty gate (.v (.c (.i k (max m n)))) := by
  intro o E G a w ho _ hr hgt
  have h1 := XRep.int (lk_rep hr hx (hgx hgt))
  have h2 := XRep.int (lk_rep hr hy (hgy hgt))
  refine ⟨.int k (max m n), CRep.i _ _, ?_⟩
  have : (if n > m then n else m) = max m n := by split <;> omega
  simp [execOp, ho, h1, h2, Go.resolve, invoke, builtin, run_max_int2, ← this]
theorem pure_min {x y : Operand} {ts : Array TypeId} {gx gy : Bool} {k k' : IntKind} {m n : Int} (hx : lk Z.T st ty x = some (gx, .v (.c (.i k m)))) (hy : lk Z.T st ty y = some (gy, .v (.c (.i k' n))))
    (hgx : gate = true → gx = true) (hgy : gate = true → gy = true) : PureOk Z st (.call { callee := .builtin .min, args := #[x, y], argTypes := ts }) ty gate (.v (.c (.i k (min m n)))) := by
  intro o E G a w ho _ hr hgt
  have h1 := XRep.int (lk_rep hr hx (hgx hgt))
  have h2 := XRep.int (lk_rep hr hy (hgy hgt))
  refine ⟨.int k (min m n), CRep.i _ _, ?_⟩
  have : (if n < m then n else m) = min m n := by split <;> omega
  simp [execOp, ho, h1, h2, Go.resolve, invoke, builtin, run_min_int2, ← this]

/-- 'var out []T': a nil slice, which its variable owns. -/
theorem does_nil {op : Op} {sz : Nat} (hop : op = .move (.const (.slice none 0 0)) ∨ op = .assign (.const (.slice none 0 0))) (_hx : lk Z.T st ty (.const (.slice none 0 0)) = some (true, .v (.c (.sl sz [])))) (hN : Nat.ble (d + 1) N = true) :
    Does Z N st (some d) op ty ((st.put d (true, .v (.c (.sl sz [])))).addOwn (.t d) sz) := by
  intro o E G a w hd ho hty hr hE K Q hK
  have hdN : d < E.nt := by rw [hE]; exact Nat.le_of_ble_eq_true hN
  unfold Oper.wp
  have : (execOp a.eval o).run Z.P w = .ok (.value (.slice none 0 0)) w := by
    rcases hop with rfl | rfl <;> simp [execOp, ho, eval_const]
  rw [this, Oper.upon_value, hd]
  have hp : Rel E G (st.put d (true, .v (.c (.sl sz [])))) (a.put (some d) (.slice none 0 0)) w := hr.put hdN (fun _ => CRep.nil sz) (fun hf => by simp at hf)
  refine hK G _ _ (hp.addOwn (v := .slice none 0 0) ?_ (.inl rfl))
  show (a.put (some d) (.slice none 0 0)).tmps[d]? = _
  rw [act_put_get (by rw [hr.nt]; exact hdN), if_pos rfl]

/-- A nil slice is stored into a box, which owns it. -/
theorem does_storeNil {t : TypeId} {x : Operand} {n : Nm} {off : Nat} {cs : List C} {ti : TyI} {sz : Nat} (hx : lk Z.T st t x = some (true, .v (.ptr n off))) (hv : lk Z.T st t (.const (.slice none 0 0)) = some (true, .v (.c (.sl sz []))))
    (hb : st.box n = some cs) (ht : tyAt Z.T t = some ti) (hn : ti.n = 1) (hl : Nat.ble (off + 1) cs.length = true) :
    Does Z N st none (.store t x (.const (.slice none 0 0))) ty ((st.store n (setAt cs off [.sl sz []]) off 1).addOwn (.b n off) sz) := by
  intro o E G a w hd ho _ hr hE K Q hK
  have h1 : a.eval x = _ := lk_rep hr hx rfl
  have h2 : All2 (CRep w G.S) [.sl sz []] (a.eval (.const (.slice none 0 0))).cells.toList := (show YRep w G (.c (.sl sz [])) _ from lk_rep hr hv rfl).cells rfl
  have hl' := Nat.le_of_ble_eq_true hl
  have hrun := run_store_box hr hb (ds := [.sl sz []]) hl' ht (by simp [hn]) h2
  unfold Oper.wp
  have : (execOp a.eval o).run Z.P w = .ok .skip (w.setCells (G.A n).1 ((G.A n).2 + off) (a.eval (.const (.slice none 0 0))).cells.toList) := by
    simp [execOp, ho, h1, hrun]
  rw [this, Oper.upon_skip, hd]
  have hst := hr.storeAll [.sl sz []] _ hb hl' h2
  refine hK G undef _ (Rel.putNone (hst.addOwn (v := .slice none 0 0) ?_ (.inl rfl)) undef)
  obtain ⟨q1, _, u, q3, q4⟩ := hst.bx n (setAt cs off [.sl sz []]) (by rw [St.store_box, if_pos rfl]) off (.sl sz []) (get_setAt1 (by omega))
  refine ⟨?_, q1⟩
  have hcell := hr.bx n cs hb off _ (List.getElem?_eq_getElem (by omega))
  obtain ⟨_, _, u0, hu0, _⟩ := hcell
  have h1c : (a.eval (.const (.slice none 0 0))).cells = #[.slice none 0 0] := rfl
  rw [h1c]
  simp only [World.setCells]
  exact World.cell?_setCell_same _ _ _ hu0

theorem al_callB {rest : List Oper} {fo : Operand} {args : Array Operand} {ts : Array TypeId} {f : FuncId} {xs cxs : List X} {res : X} (ps : List Pass)
    (ho : o.op = .call { callee := .value fo, args := args, argTypes := ts }) (hg : gateOf ops st o = some true)
    (hf : lk Z.T st 0 fo = some (true, .fn f [])) (ha : lkAll Z.T st ts.toList args.toList = some (true, xs)) (htr : cxs.map (X.tr ps) = xs) (htrok : trAll ps cxs = true)
    (hps : ∀ p ∈ ps, st.box p.n = some p.cs) (hnd : passB st ps = true)
    (hs : Ctr Z f cxs (ps.map Pass.old) res none (ps.map Pass.ds)) (hc : res.clean = true) (hd : o.dst = some d) (hN : Nat.ble (d + 1) N = true)
    (h : AL Z N ops rest K ((st.stores ps).put d (true, res))) : AL Z N ops (o :: rest) K st :=
  al_op1 (op1_callB ho hg hf ha htr htrok hps hnd hs hc (dst := some d) hd ⟨hN, rfl⟩) h
end
end Go.Abs
