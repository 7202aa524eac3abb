/- More words: loads in a drawn region, a slice against nil. -/
import Derived.Test.YtginljdgdllhfaaAbs14
set_option linter.unusedVariables false
set_option linter.unusedSimpArgs false
namespace Go.Abs
variable {Z : Pg}
section
variable {s0 : St} {N : Nat} {ops : Array Oper} {B : List Nat} {k : Nat} {rest : List Oper} {acc : List Lnk} {st : St} {o : Oper} {Q : St → Prop} {gate : Bool} {d : Nat}
theorem dr_load {t : TypeId} {x : Operand} {g0 g : Bool} {n : Nm} {off : Nat} {ti : TyI} {cs : List C} {c : C} (hk : ops[k]? = some o) (ho : o.op = .load t x) (h0 : lk Z.T st o.type x = some (g0, .v (.ptr n off))) (hg : gateOf ops (rs (foot ops o [n] []) st) o = some gate) (hd : o.dst = some d) (hN : Nat.ble (d + 1) N = true)
    (h : lk Z.T (rs (foot ops o [n] []) st) o.type x = some (g, .v (.ptr n off))) (hgg : gate = true → g = true) (ht : tyAt Z.T t = some ti) (hagg : ti.agg = false) (hb : (rs (foot ops o [n] []) st).box n = some cs) (hc : cs[off]? = some c)
    (hr : Draw Z N s0 ops B (k + 1) rest (acc ++ [(k, { d := some (d, gate, .v (.c c)), drop := [.t d] }, foot ops o [n] [])]) (ap { d := some (d, gate, .v (.c c)), drop := [.t d] } st) Q) : Draw Z N s0 ops B k (o :: rest) acc st Q :=
  let _ := h0; dr_cons hk (ls_pure hg hd hN (by rw [ho]; exact pure_loadBox h hgg ht hagg hb hc)) hr
theorem dr_loadRow {t : TypeId} {x : Operand} {g0 g : Bool} {n : Nm} {off : Nat} {ti : TyI} {cs ds : List C} (hk : ops[k]? = some o) (ho : o.op = .load t x) (h0 : lk Z.T st o.type x = some (g0, .v (.ptr n off))) (hg : gateOf ops (rs (foot ops o [n] []) st) o = some gate) (hd : o.dst = some d) (hN : Nat.ble (d + 1) N = true)
    (h : lk Z.T (rs (foot ops o [n] []) st) o.type x = some (g, .v (.ptr n off))) (hgg : gate = true → g = true) (ht : tyAt Z.T t = some ti) (hagg : ti.agg = true) (hb : (rs (foot ops o [n] []) st).box n = some cs) (hds : (cs.drop off).take ti.n = ds) (hl : ds.length = ti.n)
    (hr : Draw Z N s0 ops B (k + 1) rest (acc ++ [(k, { d := some (d, gate, .v (.agg ds)), drop := [.t d] }, foot ops o [n] [])]) (ap { d := some (d, gate, .v (.agg ds)), drop := [.t d] } st) Q) : Draw Z N s0 ops B k (o :: rest) acc st Q :=
  let _ := h0; dr_cons hk (ls_pure hg hd hN (by rw [ho]; exact pure_loadBoxRow h hgg ht hagg hb hds hl)) hr
theorem awp_drawn' {Q : Exit → St → Prop} {id : Nat} {l : List Oper} (hcert : certB l.toArray (Region.before l.toArray).toList = true) (h : Draw Z N st l.toArray (Region.before l.toArray).toList 0 l [] st (Q .normal)) : AWP Z N (.region id l.toArray true) Q st :=
  awp_drawn _ hcert h

/-- 'x == nil', a slice: whatever the answer, if the slice is empty; no, if it is not. -/
theorem al_eqNil {rest : List Oper} {K : St → Prop} {x : Operand} {t t' : TypeId} {g : Bool} {sz : Nat} {es : List (List C)} {ti : TyI} {el : Nat × Nat × Nat} (ho : o.op = .binOp .eql t x (.const (.slice none 0 0)) t') (hg : gateOf ops st o = some true) (hd : o.dst = some d) (hN : Nat.ble (d + 1) N = true)
    (h : lk Z.T st o.type x = some (g, .v (.c (.sl sz es)))) (hgg : g = true) (ht : tyAt Z.T t = some ti) (hel : ti.el = some el) (hK : ∀ b : Bool, (b = true → es = []) → AL Z N ops rest K (st.put d (true, .v (.c (.b b))))) : AL Z N ops (o :: rest) K st := by
  intro E G a w hr hE K' hK'
  obtain ⟨e, s, by'⟩ := el
  have hu := ((Z.tyOk ht).sl e s by' hel).1
  have h1 := lk_rep hr h hgg
  have hdN : d < E.nt := by rw [hE]; exact Nat.le_of_ble_eq_true hN
  have key : ∀ (b : Bool), (b = true → es = []) → (execOp a.eval o).run Z.P w = .ok (.value (.bool b)) w → wpList Z.P ops (Qn K') (o :: rest) a w := by
    intro b hb hrun
    unfold wpList
    rw [wanted_gate hr hg]
    simp only [if_true]
    refine .inl ?_
    unfold Oper.wp
    rw [hrun, Oper.upon_value, hd]
    exact hK b hb E G _ w (hr.put hdN (fun _ => XRep.mkBool b) (fun hf => by simp at hf)) hE K' hK'
  have heq : ∀ (v : Option Addr) (n c : Nat), (Op.equal t (.slice v n c) (.slice none 0 0)).run Z.P w = .ok v.isNone w := by
    intro v n c
    show (Op.equalIn (9999 + 1) t (.slice v n c) (.slice none 0 0)).run Z.P w = _
    rw [Op.equalIn]
    cases v <;> simp [underlying, hu]
  have hexec : ∀ (v : Option Addr) (n c : Nat), a.eval x = .slice v n c → (execOp a.eval o).run Z.P w = .ok (.value (.bool v.isNone)) w := by
    intro v n c hv
    simp [execOp, ho, hv, eval_const, eqGuard, binOp, heq]
  rcases CRep.sl_cases h1 with ⟨a0, hv, hes⟩ | ⟨blk, off, len, cap, hv, _⟩
  · exact key a0.isNone (fun _ => hes) (hexec _ _ _ hv)
  · exact key false (fun h => by simp at h) (hexec _ _ _ hv)
end
end Go.Abs
