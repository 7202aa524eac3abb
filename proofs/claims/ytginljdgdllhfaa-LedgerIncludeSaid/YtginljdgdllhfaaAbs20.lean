/- Functions of the library without a body: what they return, they return at once. -/
import Derived.Test.YtginljdgdllhfaaAbs19
import Derived.Laws.Externs
import Derived.Lib.Bytealg
set_option linter.unusedVariables false
set_option linter.unusedSimpArgs false
namespace Go.Abs
variable {Z : Pg} {st : St} {ty : TypeId} {gate : Bool}

theorem pure_extern {fo : Operand} {args : Array Operand} {ts : Array TypeId} {g gf : Bool} {f : FuncId} {fn : Func} {ext : Array Value → Sem Value} {xs : List X} {res : X}
    (hf : lk Z.T st 0 fo = some (gf, .fn f [])) (ha : lkAll Z.T st ts.toList args.toList = some (g, xs)) (hgf : gate = true → gf = true) (hga : gate = true → g = true)
    (hfn : Z.P.funcs[f]? = some fn) (hname : (fn.name == "runtime.NumGoroutine") = false) (hb : fn.body.isNone = true) (hn : Extern.findNext fn = none) (he : Extern.find fn = some ext)
    (hrun : ∀ (w : World) (G : Gh) (vs : List Value), All2 (XRep w G) xs vs → ∃ v, XRep w G res v ∧ (ext vs.toArray).run Z.P w = .ok v w) :
    PureOk Z st (.call { callee := .value fo, args := args, argTypes := ts }) ty gate res := by
  intro o E G a w ho _ hr hgt
  obtain ⟨cvs, hfv, hcv⟩ := lk_rep hr hf (hgf hgt)
  have hcv0 : cvs = [] := by cases cvs with
    | nil => rfl
    | cons _ _ => exact hcv.elim
  subst hcv0
  have hav := lkAll_rep hr ha (hga hgt)
  obtain ⟨v, hv, hrv⟩ := hrun w G _ hav
  refine ⟨v, hv, ?_⟩
  have hc := run_callFunc_extern hfn hname hb hn he (args.toList.map a.eval).toArray w
  rw [hrv] at hc
  simp only [Result.andThen_ok] at hc
  have hfv' : a.eval fo = .func (.func f) #[] #[] := hfv
  simp [execOp, ho, Go.resolve, hfv', Deferred.ofValue, invoke]
  have hca : args.map a.eval = (args.toList.map a.eval).toArray := by
    rw [← Array.toList_map]
  rw [hca]
  exact hc

theorem put_ret (st : St) (d : Nat) (gate : Bool) (x : X) (sz : Nat) : Sub (st.put d (gate, x)) (st.ret d gate x (some sz)) := by
  cases gate with
  | false => exact Sub.refl _
  | true =>
    refine ⟨fun _ _ h => h, fun _ _ h => h, fun p s h => ?_⟩
    show ((st.put d (true, x)).addOwn (.t d) sz).own p = some s
    rw [St.addOwn_own]
    split
    · rename_i he
      subst he
      rw [St.put_own, if_pos rfl] at h
      simp at h
    · exact h
/-- A slice that is written out, behind a guard: nobody appends to it. -/
theorem al_buildSliceG {N : Nat} {ops : Array Oper} {rest : List Oper} {K : St → Prop} {o : Oper} {g : Bool} {d : Nat} {t : TypeId} {len : Nat} {parts : Array (Nat × Operand)} {xs : List Operand} {ti : TyI} {e sz by' : Nat} {rs : List (List C)}
    (ho : o.op = .buildSlice t len parts) (hg : gateOf ops st o = some gate) (hd : o.dst = some d) (hN : Nat.ble (d + 1) N = true) (ht : tyAt Z.T t = some ti) (hel : ti.el = some (e, sz, by')) (hp : parts.toList = enumO 0 xs) (hx : Nat.beq xs.length len = true)
    (hrs : rowsOf Z.T st e sz xs = some (g, rs)) (hga : gate = true → g = true) (hbig : Nat.ble (len * sz) 10000 = true)
    (h : AL Z N ops rest K (st.put d (gate, .v (.c (.sl sz rs))))) : AL Z N ops (o :: rest) K st :=
  al_op1 ((op1_buildSlice ho hg hd hN ht hel hp hx hrs hga hbig).sub (put_ret _ _ _ _ _)) h

/-- A call in a region that draws its order, whose result owns nothing. -/
theorem dr_callN {s0 : St} {N : Nat} {ops : Array Oper} {B : List Nat} {k : Nat} {rest : List Oper} {acc : List Lnk} {o : Oper} {Q : St → Prop} {d : Nat} {g gf : Bool} {fo : Operand} {args : Array Operand} {ts : Array TypeId} {f : FuncId} {caps : List Y} {xs : List X} {res : X} (hk : ops[k]? = some o)
    (ho : o.op = .call { callee := .value fo, args := args, argTypes := ts }) (hg : gateOf ops (rs (foot ops o [] []) st) o = some gate) (hd : o.dst = some d) (hN : Nat.ble (d + 1) N = true)
    (hf : lk Z.T (rs (foot ops o [] []) st) 0 fo = some (gf, .fn f caps)) (ha : lkAll Z.T (rs (foot ops o [] []) st) ts.toList args.toList = some (g, xs)) (hgf : gate = true → gf = true) (hga : gate = true → g = true)
    (hs : Ctr Z f (xs ++ caps.map .v) [] res none []) (hc : res.clean = true)
    (hr : Draw Z N s0 ops B (k + 1) rest (acc ++ [(k, { d := some (d, gate, res), drop := [.t d] }, foot ops o [] [])]) (ap { d := some (d, gate, res), drop := [.t d] } st) Q) :
    Draw Z N s0 ops B k (o :: rest) acc st Q := dr_cons hk (by
      have h := ls_call (R := foot ops o [] []) ho hg hd hN hf ha hgf hga hs hc
      rw [show cond gate (Option.map (fun sz => (Pl.t d, sz)) none) none = none from by cases gate <;> rfl] at h
      exact h) hr

/-- A new box in a region that draws its order. -/
theorem ls_alloc {N : Nat} {ops : Array Oper} {o : Oper} {d : Nat} {t : TypeId} {ti : TyI} {R : Foot} (ho : o.op = .alloc t) (hg : gateOf ops (rs R st) o = some true) (hd : o.dst = some d) (hrn : (Nm.l d, true) ∈ R.rn) (ht : tyAt Z.T t = some ti) (hN : Nat.ble (d + 1) N = true) :
    LS Z N ops o { d := some (d, true, .v (.ptr (.l d) 0)), b := some (.l d, ti.z), drop := [.t d] } R st := by
  intro s2 hag hfr
  have hF := hfr _ hrn
  refine (op1_do (gateOf_sub hag.sub hg) (by rw [hd, ho]; exact does_allocG ht hN (hF.1 rfl))).sub ⟨?_, ?_, ?_⟩
  · intro j e hj
    rw [ap_get] at hj
    rw [St.put_get]
    simp only [Eff.gt] at hj
    by_cases h : d = j
    · subst h; simpa using hj
    · have h' : ¬ j = d := fun e => h e.symm
      rw [if_neg h']
      have hj' : s2.get j = some e := by simpa [h] using hj
      exact hj'
  · intro m cs hm
    rw [ap_box] at hm
    show (s2.addBox (.l d) ti.z).box m = _
    have : (s2.addBox (.l d) ti.z).box m = if Nm.l d = m then some ti.z else (s2.drop (.l d)).box m := getB_cons _ _ _ _
    rw [this]
    simp only [Eff.gb] at hm
    split
    · rename_i he; rw [if_pos he] at hm; exact hm
    · rename_i he
      rw [if_neg he] at hm
      rw [St.drop_box, if_neg (fun e => he e.symm)]
      exact hm
  · intro p s hp
    rw [ap_own] at hp
    rw [St.put_own]
    simp only [Eff.go, List.mem_singleton] at hp
    split
    · rename_i he; rw [if_pos he] at hp; exact hp
    · rename_i he
      rw [if_neg he] at hp
      show (s2.drop (.l d)).own p = _
      rw [St.drop_own, if_neg (by rw [hF.2 p s hp]; simp)]
      exact hp
theorem dr_alloc {s0 : St} {N : Nat} {ops : Array Oper} {B : List Nat} {k : Nat} {rest : List Oper} {acc : List Lnk} {o : Oper} {Q : St → Prop} {d : Nat} {t : TypeId} {ti : TyI} (hk : ops[k]? = some o) (ho : o.op = .alloc t) (hg : gateOf ops (rs (foot ops o [] []) st) o = some true) (hd : o.dst = some d) (ht : tyAt Z.T t = some ti) (hN : Nat.ble (d + 1) N = true)
    (hfr : s0.freshO (.l d, true) = true)
    (hr : Draw Z N s0 ops B (k + 1) rest (acc ++ [(k, { d := some (d, true, .v (.ptr (.l d) 0)), b := some (.l d, ti.z), drop := [.t d] }, { foot ops o [] [] with rn := [(.l d, true)] })]) (ap { d := some (d, true, .v (.ptr (.l d) 0)), b := some (.l d, ti.z), drop := [.t d] } st) Q) :
    Draw Z N s0 ops B k (o :: rest) acc st Q :=
  dr_cons hk (ls_alloc (R := { foot ops o [] [] with rn := [(.l d, true)] }) ho hg hd (by simp) ht hN) hr (by intro n hn; simp only [List.mem_singleton] at hn; subst hn; exact hfr)

/-- The order of strings, as the library has it. -/
def cmpL : List UInt8 → List UInt8 → Int := Lib.compareBytes
theorem run_cmp (P : Program) (l m : List UInt8) (w : World) (G : Gh) (vs : List Value) (h : All2 (XRep w G) [.v (.c (.s l)), .v (.c (.s m))] vs) :
    ∃ v, XRep w G (.v (.c (.i .i64 (cmpL l m)))) v ∧ (Extern.BytealgCompare.compare vs.toArray).run P w = .ok v w := by
  match vs, h with
  | [u, v], h =>
    have h1 := XRep.str h.1
    have h2 := XRep.str h.2.1
    subst h1
    subst h2
    exact ⟨_, CRep.i _ _, Lib.run_compareString _ _ _⟩
end Go.Abs
