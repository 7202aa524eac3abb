/- Contracts of functions: what they say, how they are used, how they are shown. -/
import Derived.Test.YtginljdgdllhfaaAbs5
set_option linter.unusedVariables false
set_option linter.unusedSimpArgs false
namespace Go.Abs
variable {Z : Pg}

/-- The function has a body of its own. -/
def Enters (Z : Pg) (f : FuncId) : Prop := ∃ fn, Z.P.funcs[f]? = some fn ∧ fn.body.isNone = false ∧ (fn.name == "runtime.NumGoroutine") = false

/-- The contract: called with what stands for 'args', over boxes that hold 'bs', 'f' returns what stands for 'res' (a slice that owns the spare cells behind it, if 'ro' gives its elements' size), and leaves 'bs'' in the boxes; nothing else of what was there turns. -/
def Ctr (Z : Pg) (f : FuncId) (args : List X) (bs : List (List C)) (res : X) (ro : Option Nat) (bs' : List (List C)) : Prop :=
  Enters Z f ∧ ∀ (w : World) (G : Gh) (vs : List Value), All2 (XRep w G) args vs → (∀ b o, G.W b o ≠ .none → b < w.heap.size) → (∀ (j : Nat) (cs : List C), bs[j]? = some cs → BoxAt w G (.o j) cs) →
    (∀ b o n, G.W b o = .box n → ∃ j cs k, n = .o j ∧ bs[j]? = some cs ∧ k < cs.length ∧ b = (G.A n).1 ∧ o = (G.A n).2 + k) → (∀ b o p, G.W b o ≠ .own p) →
    Calls Z.P f vs.toArray w fun e w' => ∃ v G', e = .returned v ∧ Fr (fun b o => ∃ n, G.W b o = .box n) w.heap.size w w' ∧
      (∀ b o, G.W b o = .imm → G'.W b o = .imm) ∧ (∀ b o, b < w.heap.size → G'.W b o = .imm → G.W b o = .imm) ∧ (∀ b o, G'.W b o ≠ .none → b < w'.heap.size) ∧ XRep w' G' res v ∧
      (∀ j, G'.A (.o j) = G.A (.o j)) ∧ (∀ (j : Nat) (cs : List C), bs'[j]? = some cs → BoxAt w' G' (.o j) cs) ∧
      (∀ sz, ro = some sz → OwnAt w' G' (.t 0) sz v) ∧ (∀ b o, G'.W b o = .own (.t 0) → w.heap.size ≤ b)

def Y.clean : Y → Bool
  | .ptr _ _ | .ms _ _ _ _ => false
  | _ => true
def X.clean : X → Bool
  | .v z => z.clean
  | .tup ys | .fn _ ys => ys.all (·.clean)
theorem Y.clean_has {y : Y} (h : y.clean = true) (n : Nm) : y.has n = false := by
  cases y <;> simp_all [Y.clean, Y.has]
theorem X.clean_has {x : X} (h : x.clean = true) (n : Nm) : x.has n = false := by
  cases x with
  | v z => exact Y.clean_has h n
  | tup ys =>
    simp only [X.clean, X.has] at *
    rw [List.any_eq_false]
    intro y hy
    simp [Y.clean_has (List.all_eq_true.1 h y hy) n]
  | fn f ys =>
    simp only [X.clean, X.has] at *
    rw [List.any_eq_false]
    intro y hy
    simp [Y.clean_has (List.all_eq_true.1 h y hy) n]

def lkAll (T : List (Option TyI)) (st : St) : List TypeId → List Operand → Option (Bool × List X)
  | _, [] => some (true, [])
  | [], _ :: _ => none
  | t :: ts, o :: os => match lk T st t o with
    | some (g, x) => (match lkAll T st ts os with | some (g', xs) => some (g && g', x :: xs) | none => none)
    | none => none

theorem lkAll_rep {E : Env} {G : Gh} {st : St} {a : Act} {w : World} (hr : Rel E G st a w) {T : List (Option TyI)} : ∀ {ts : List TypeId} {os : List Operand} {g : Bool} {xs : List X},
    lkAll T st ts os = some (g, xs) → g = true → All2 (XRep w G) xs (os.map a.eval)
  | _, [], g, xs, h, hg => by simp [lkAll] at h; obtain ⟨_, rfl⟩ := h; trivial
  | [], _ :: _, g, xs, h, hg => by simp [lkAll] at h
  | t :: ts, o :: os, g, xs, h, hg => by
    simp only [lkAll] at h
    split at h
    · rename_i g1 x h1
      split at h
      · rename_i g2 xs' h2
        simp only [Option.some.injEq, Prod.mk.injEq] at h
        obtain ⟨rfl, rfl⟩ := h
        rw [Bool.and_eq_true] at hg
        exact ⟨lk_rep hr h1 hg.1, lkAll_rep hr h2 hg.2⟩
      · simp at h
    · simp at h

theorem run_call {fo : Operand} {args : Array Operand} {ts : Array TypeId} {f : FuncId} {caps : List Value} {o : Oper} {a : Act} {w : World}
    (ho : o.op = .call { callee := .value fo, args := args, argTypes := ts }) (hf : a.eval fo = .func (.func f) #[] caps.toArray) (he : Enters Z f) :
    (execOp a.eval o).run Z.P w = .ok (.enter f ((args.toList.map a.eval) ++ caps).toArray) w := by
  obtain ⟨fn, h1, h2, h3⟩ := he
  have h3' : ¬ fn.name = "runtime.NumGoroutine" := by simpa using h3
  have h2' : ¬ fn.body = none := by
    intro e; rw [e] at h2; simp at h2
  simp [execOp, ho, Go.resolve, hf, Deferred.ofValue, invoke, callFunc, h1, h3', h2']

/-- The ghost that a callee without boxes sees. -/
def Gh.pure (G : Gh) : Gh := { G with W := fun b o => match G.W b o with | .imm => .imm | _ => .none }
theorem Gh.pure_imm (G : Gh) (b o : Nat) : G.pure.W b o = .imm ↔ G.W b o = .imm := by
  unfold Gh.pure; dsimp only; cases G.W b o <;> simp
theorem Gh.pure_cases (G : Gh) (b o : Nat) : G.pure.W b o = .imm ∨ G.pure.W b o = .none := by
  unfold Gh.pure; dsimp only; cases G.W b o <;> simp

/-- The ghost behind the call. -/
def Gh.back (G G' : Gh) (B : Nat) (own : Who) : Gh :=
  { A := G.A, W := fun b o => if b < B then G.W b o else match G'.W b o with | .imm => .imm | .own (.t 0) => own | _ => .none }

def St.addOwn (st : St) (p : Pl) (sz : Nat) : St := { st with ow := (p, sz) :: st.ow }
theorem St.addOwn_own (st : St) (p : Pl) (sz : Nat) (q : Pl) : (st.addOwn p sz).own q = if p = q then some sz else st.own q := getO_cons _ _ _ _
theorem Rel.addOwn {E : Env} {G : Gh} {st : St} {a : Act} {w : World} {p : Pl} {sz : Nat} (h : Rel E G st a w) {v : Value} (hv : ValAt a w G p v) (ho : OwnAt w G p sz v) : Rel E G (st.addOwn p sz) a w where
  df := h.df
  tm := h.tm
  bx := h.bx
  ow := by
    intro q s hq
    rw [St.addOwn_own] at hq
    split at hq
    · rename_i he; subst he; simp at hq; subst hq; exact ⟨v, hv, ho⟩
    · exact h.ow q s hq
  wf := h.wf
  olB := h.olB
  olO := h.olO
  nt := h.nt
  oA := h.oA
  im := h.im
  im' := h.im'
  fr := h.fr
  hB := h.hB
  lo := h.lo

/-- 'st' behind a call into slot 'd'. -/
def St.ret (st : St) (d : Nat) (gate : Bool) (res : X) (ro : Option Nat) : St :=
  match ro with
  | none => st.put d (gate, res)
  | some sz => cond gate ((st.put d (gate, res)).addOwn (.t d) sz) (st.put d (gate, res))

theorem Gh.back_imm {G G' : Gh} {B : Nat} {own : Who} (h2 : ∀ b o, b < B → G'.W b o = .imm → G.W b o = .imm) (b o : Nat)
    (h : G'.S b o) : (G.back G' B own).S b o := by
  unfold Gh.S Gh.back at *
  dsimp only
  split
  · rename_i hb; exact h2 b o hb h
  · rw [h]

/-- A call of a function that is handed no boxes. -/
theorem op1_call {N : Nat} {ops : Array Oper} {st : St} {o : Oper} {gate g gf : Bool} {d : Nat} {fo : Operand} {args : Array Operand} {ts : Array TypeId} {f : FuncId} {caps : List Y} {xs : List X} {res : X} {ro : Option Nat}
    (ho : o.op = .call { callee := .value fo, args := args, argTypes := ts }) (hg : gateOf ops st o = some gate) (hd : o.dst = some d) (hN : Nat.ble (d + 1) N = true)
    (hf : lk Z.T st 0 fo = some (gf, .fn f caps)) (ha : lkAll Z.T st ts.toList args.toList = some (g, xs)) (hgf : gate = true → gf = true) (hga : gate = true → g = true)
    (hs : Ctr Z f (xs ++ caps.map .v) [] res ro []) (hc : res.clean = true) : Op1 Z N ops o st (st.ret d gate res ro) := by
  intro E G a w hr hE K' Q' hK
  have hdN : d < E.nt := by rw [hE]; exact Nat.le_of_ble_eq_true hN
  rw [wanted_gate hr hg, hd]
  rw [hd] at hK
  cases gate with
  | false =>
    simp only [Bool.false_eq_true, if_false]
    have : st.ret d false res ro = st.put d (false, res) := by unfold St.ret; split <;> rfl
    rw [this] at hK
    exact hK G undef w (hr.put hdN (fun hf => by simp at hf) (fun _ => rfl))
  | true =>
    simp only [if_true]
    obtain ⟨cvs, hfv, hcv⟩ := lk_rep hr hf (hgf rfl)
    have hav := lkAll_rep hr ha (hga rfl)
    obtain ⟨hen, hsp⟩ := hs
    unfold Oper.wp
    rw [run_call ho hfv hen, Oper.upon_enter]
    have hmono : ∀ {x : X} {v : Value}, XRep w G x v → XRep w G.pure x v := fun hx => hx.mono (fun b o hs => (G.pure_imm b o).2 hs) (fun _ _ _ => rfl) (fun _ _ => rfl)
    have hcv' : All2 (XRep w G) (caps.map X.v) cvs := by
      have : ∀ (as : List Y) (bs : List Value), All2 (YRep w G) as bs → All2 (XRep w G) (as.map X.v) bs := by
        intro as
        induction as with
        | nil => intro bs h; cases bs <;> exact h
        | cons y ys ih => intro bs h; cases bs with
          | nil => exact h.elim
          | cons b bs => exact ⟨h.1, ih bs h.2⟩
      exact this _ _ hcv
    refine (hsp w G.pure _ ((hav.append hcv').mono fun _ _ => hmono) ?_ ?_ ?_ ?_).mono ?_
    · intro b o' hb
      refine hr.wf b o' ?_
      intro e; apply hb; unfold Gh.pure; simp [e]
    · intro j cs hj; simp at hj
    · intro b o' n hn; rcases G.pure_cases b o' with h' | h' <;> rw [h'] at hn <;> simp at hn
    · intro b o' p hn; rcases G.pure_cases b o' with h' | h' <;> rw [h'] at hn <;> simp at hn
    · rintro e w' ⟨v, G', rfl, hfr, h1, h2, h3, h4, h5, h6, h7, h8⟩
      dsimp only
      have hfr' : Fr (fun _ _ => False) w.heap.size w w' := hfr.mono (Nat.le_refl _) (fun b o' _ ⟨n, hn⟩ => by rcases G.pure_cases b o' with h' | h' <;> rw [h'] at hn <;> simp at hn)
      have g1 : ∀ b o', G.W b o' = .imm → G'.W b o' = .imm := fun b o' hi => h1 b o' ((G.pure_imm b o').2 hi)
      have g2 : ∀ b o', b < w.heap.size → G'.W b o' = .imm → G.W b o' = .imm := fun b o' hb hi => (G.pure_imm b o').1 (h2 b o' hb hi)
      let G2 := G.back G' w.heap.size (.own (.t d))
      have hrel : Rel E G2 st a w' := hr.grow hfr' (fun b o' hb => by simp [G2, Gh.back, hb]) (SameA.refl _ _) (fun b o' hb => by
        dsimp only [G2, Gh.back] at hb
        split at hb
        · rename_i hlt; exact Nat.lt_of_lt_of_le hlt hfr'.size
        · refine h3 b o' ?_
          intro e; rw [e] at hb; simp at hb)
      have hX : XRep w' G2 res v := h4.mono (fun b o' => Gh.back_imm g2 b o') (fun _ _ _ => rfl) (fun n hn => by rw [X.clean_has hc n] at hn; simp at hn)
      have hput := hrel.put hdN (g := true) (fun _ => hX) (fun hf => by simp at hf)
      cases hro : ro with
      | none =>
        rw [hro] at hK
        rw [hd]
        exact hK G2 v w' hput
      | some sz =>
        rw [hro] at hK
        rw [hd]
        refine hK G2 v w' (hput.addOwn (v := v) ?_ ?_)
        · show (a.put (some d) v).tmps[d]? = _
          rw [act_put_get (by rw [hr.nt]; exact hdN)]; simp
        · rcases h7 sz hro with h7 | ⟨blk, len, cap, e, k1, k2, k3, k4⟩
          · exact .inl h7
          · refine .inr ⟨blk, len, cap, e, k1, k2, k3, fun o' ho1 ho2 => ?_⟩
            obtain ⟨k5, k6⟩ := k4 o' ho1 ho2
            refine ⟨?_, k6⟩
            have hnb : ¬ blk < w.heap.size := by have := h8 _ _ k5; omega
            simp [G2, Gh.back, hnb, k5]

theorem al_call {N : Nat} {ops : Array Oper} {rest : List Oper} {K : St → Prop} {st : St} {o : Oper} {gate g gf : Bool} {d : Nat} {fo : Operand} {args : Array Operand} {ts : Array TypeId} {f : FuncId} {caps : List Y} {xs : List X} {res : X} {ro : Option Nat}
    (ho : o.op = .call { callee := .value fo, args := args, argTypes := ts }) (hg : gateOf ops st o = some gate) (hd : o.dst = some d) (hN : Nat.ble (d + 1) N = true)
    (hf : lk Z.T st 0 fo = some (gf, .fn f caps)) (ha : lkAll Z.T st ts.toList args.toList = some (g, xs)) (hgf : gate = true → gf = true) (hga : gate = true → g = true)
    (hs : Ctr Z f (xs ++ caps.map .v) [] res ro []) (hc : res.clean = true)
    (h : AL Z N ops rest K (st.ret d gate res ro)) : AL Z N ops (o :: rest) K st := al_op1 (op1_call ho hg hd hN hf ha hgf hga hs hc) h

/-! ### To show a contract -/
def resY (T : List (Option TyI)) (s : St) : ResultVar → Option Y
  | .tmp t => match s.get t with
    | some (true, .v y) => some y
    | _ => none
  | .cell a t => match s.get a with
    | some (true, .v (.ptr n 0)) => (match s.box n, tyAt T t with
      | some cs, some ti => cond ti.agg (cond (Nat.beq cs.length ti.n) (some (.agg cs)) none) (match cs with | c :: _ => some (.c c) | [] => none)
      | _, _ => none)
    | _ => none
def resYs (T : List (Option TyI)) (s : St) : List ResultVar → Option (List Y)
  | [] => some []
  | r :: rs => match resY T s r with
    | some y => (match resYs T s rs with | some ys => some (y :: ys) | none => none)
    | none => none
def wrapYs : List Y → X
  | [y] => .v y
  | ys => .tup ys
def resX (T : List (Option TyI)) (s : St) (rs : List ResultVar) : Option X :=
  match resYs T s rs with
  | some ys => some (wrapYs ys)
  | none => none
def resSem (tmps : Array Value) : ResultVar → Sem Value
  | .tmp t => pure (tmps.getD t undef)
  | .cell b t => do loadVar t (← asAddr (tmps.getD b undef))
theorem results_eq (fn : Func) (tmps : Array Value) : results fn tmps = (fn.results.mapM (resSem tmps)) >>= fun vs => pure (if h : vs.size = 1 then vs[0] else .tuple vs) := by
  unfold results
  congr 2
def slotOf : List ResultVar → Nat
  | [.tmp t] => t
  | _ => 0
def ownOf (s : St) : List ResultVar → Option Nat → Prop
  | _, none => True
  | [.tmp t], some sz => s.own (.t t) = some sz
  | _, _ => False

/-- What a function's end asks. -/
def retS (T : List (Option TyI)) (rs : List ResultVar) (res : X) (ro : Option Nat) (bs' : List (List C)) : Exit → St → Prop
  | .normal, s | .ret, s => resX T s rs = some res ∧ ownOf s rs ro ∧ ∀ (j : Nat) (cs : List C), bs'[j]? = some cs → s.box (.o j) = some cs
  | _, _ => False

theorem run_results {E : Env} {G : Gh} {s : St} {a : Act} {w : World} (hr : Rel E G s a w) : ∀ {rs : List ResultVar} {ys : List Y}, resYs Z.T s rs = some ys →
    ∃ vs : List Value, (rs.mapM (resSem a.tmps)).run Z.P w = .ok vs w ∧ All2 (YRep w G) ys vs ∧
      (∀ t, rs = [.tmp t] → ∃ v, vs = [v] ∧ a.tmps[t]? = some v)
  | [], ys, h => by
    simp [resYs] at h; subst h
    exact ⟨[], by simp, trivial, fun t ht => by simp at ht⟩
  | r :: rs, ys, h => by
    simp only [resYs] at h
    split at h
    · rename_i y hy
      split at h
      · rename_i ys' hys
        simp only [Option.some.injEq] at h
        subst h
        obtain ⟨vs, hvs, hall, _⟩ := run_results hr hys
        have : ∃ v, (resSem a.tmps r).run Z.P w = .ok v w ∧ YRep w G y v ∧ (∀ t, r = .tmp t → a.tmps[t]? = some v) := by
          cases r with
          | tmp t =>
            simp only [resY] at hy
            split at hy
            · rename_i y' hg
              simp only [Option.some.injEq] at hy
              subst hy
              obtain ⟨v, hv, h1, _⟩ := hr.tm t _ _ hg
              exact ⟨v, by simp [resSem, Array.getD_eq_getD_getElem?, hv], h1 rfl, fun t' ht => by simp at ht; subst ht; exact hv⟩
            · simp at hy
          | cell b t =>
            simp only [resY] at hy
            split at hy
            · rename_i n hg
              split at hy
              · rename_i cs ti hb ht
                obtain ⟨v, hv, h1, _⟩ := hr.tm b _ _ hg
                have h1' : v = _ := h1 rfl
                subst h1'
                have hbox := hr.bx n cs hb
                cases hagg : ti.agg with
                | true =>
                  rw [hagg, cond_true] at hy
                  cases hlen : Nat.beq cs.length ti.n with
                  | false => rw [hlen] at hy; simp at hy
                  | true =>
                    rw [hlen, cond_true] at hy
                    simp only [Option.some.injEq] at hy
                    subst hy
                    have hln : cs.length = ti.n := Nat.eq_of_beq_eq_true hlen
                    obtain ⟨us, hul, hus⟩ := vals_of (R := fun j v => w.cell? ⟨(G.A n).1, (G.A n).2 + 0 + j, none⟩ = some v ∧ ∀ c, cs[j]? = some c → CRep w G.S c v) ti.n fun j hj => by
                      have hj' : cs[j]? = some (cs[j]'(by omega)) := List.getElem?_eq_getElem (by omega)
                      obtain ⟨_, _, v, hv, hcr⟩ := hbox _ _ hj'
                      exact ⟨v, by simpa using hv, fun c hc => by rw [hj'] at hc; simp at hc; subst hc; exact hcr⟩
                    have hrun := run_load_row (Z := Z) (w := w) ht hagg hul fun j v hv => (hus j v hv).1
                    simp only [Instr.loadAt, Instr.sureAddr, Sem.run_bind, Sem.run_pure, Result.andThen_ok] at hrun
                    refine ⟨.agg us.toArray, ?_, ⟨us, rfl, All2.mk (by omega) fun j c v hc hv => (hus j v hv).2 c hc⟩, fun t' ht' => by simp at ht'⟩
                    simp [resSem, Array.getD_eq_getD_getElem?, hv, asAddr]
                    simpa using hrun
                | false =>
                  rw [hagg, cond_false] at hy
                  split at hy
                  · rename_i c r'
                    simp only [Option.some.injEq] at hy
                    subst hy
                    obtain ⟨_, _, u, hu, hcr⟩ := hbox 0 c rfl
                    have hrun := run_load_cell (Z := Z) (w := w) (blk := (G.A n).1) (off := (G.A n).2 + 0) ht hagg (v := u) hu
                    simp only [Instr.loadAt, Instr.sureAddr, Sem.run_bind, Sem.run_pure, Result.andThen_ok] at hrun
                    refine ⟨u, ?_, hcr, fun t' ht' => by simp at ht'⟩
                    simp [resSem, Array.getD_eq_getD_getElem?, hv, asAddr]
                    simpa using hrun
                  · simp at hy
              · simp at hy
            · simp at hy
        obtain ⟨v, hv, hy1, hy2⟩ := this
        refine ⟨v :: vs, ?_, ⟨hy1, hall⟩, ?_⟩
        · rw [List.mapM_cons, Sem.run_bind, hv]
          simp only [Result.andThen_ok, Sem.run_bind, hvs, Sem.run_pure]
        · intro t ht
          simp only [List.cons.injEq] at ht
          obtain ⟨rfl, rfl⟩ := ht
          simp [resYs] at hys
          subst hys
          cases vs with
          | nil => exact ⟨v, rfl, hy2 t rfl⟩
          | cons _ _ => exact hall.elim
      · simp at h
    · simp at h

def argsT : Nat → List X → List (Nat × Bool × X)
  | _, [] => []
  | k, x :: r => (k, true, x) :: argsT (k + 1) r
def boxesB : Nat → List (List C) → List (Nm × List C)
  | _, [] => []
  | j, c :: r => (.o j, c) :: boxesB (j + 1) r
def st0 (args : List X) (bs : List (List C)) : St := { t := argsT 0 args, bx := boxesB 0 bs, ow := [] }

theorem argsT_get : ∀ (k : Nat) (xs : List X) (j : Nat) (e : Bool × X), getT (argsT k xs) j = some e → ∃ i x, j = k + i ∧ xs[i]? = some x ∧ e = (true, x)
  | k, [], j, e, h => by simp [argsT, getT] at h
  | k, x :: r, j, e, h => by
    rw [argsT, getT_cons] at h
    split at h
    · rename_i hk; subst hk; simp at h; exact ⟨0, x, rfl, rfl, h.symm⟩
    · obtain ⟨i, y, h1, h2, h3⟩ := argsT_get (k + 1) r j e h
      exact ⟨i + 1, y, by omega, by simpa using h2, h3⟩
theorem boxesB_get : ∀ (k : Nat) (bs : List (List C)) (n : Nm) (cs : List C), getB (boxesB k bs) n = some cs → ∃ i, n = .o (k + i) ∧ bs[i]? = some cs
  | k, [], n, cs, h => by simp [boxesB, getB] at h
  | k, c :: r, n, cs, h => by
    rw [boxesB, getB_cons] at h
    split at h
    · rename_i hk; subst hk; simp at h; exact ⟨0, rfl, by simp [h]⟩
    · obtain ⟨i, h1, h2⟩ := boxesB_get (k + 1) r n cs h
      exact ⟨i + 1, by rw [h1]; congr 1; omega, by simpa using h2⟩

theorem spec_intro {f : FuncId} {fn : Func} {c : Code} {N : Nat} {rs : List ResultVar} {args : List X} {bs bs' : List (List C)} {res : X} {ro : Option Nat}
    (hf : Z.P.funcs[f]? = some fn) (hb : fn.body = some c) (hname : (fn.name == "runtime.NumGoroutine") = false) (hN : fn.ntmps = N) (hrs : fn.results = rs.toArray) (hlen' : Nat.ble args.length N = true) (hc : res.clean = true)
    (h : AWP Z N c (retS Z.T rs res ro bs') (st0 args bs)) : Ctr Z f args bs res ro bs' := by
  have hlen : args.length ≤ N := Nat.le_of_ble_eq_true hlen'
  refine ⟨⟨fn, hf, by rw [hb]; rfl, hname⟩, ?_⟩
  intro w G vs hvs hwf hbx hbox hown
  let E : Env := { B := w.heap.size, w0 := w, W0 := G.W, A0 := fun j => G.A (.o j), nt := N }
  let a : Act := { tmps := vs.toArray ++ Array.replicate (fn.ntmps - vs.toArray.size) undef, defers := [] }
  have hal : args.length = vs.length := hvs.len
  have hrel : Rel E G (st0 args bs) a w := {
    df := rfl
    tm := by
      intro k g x hk
      obtain ⟨i, y, h1, h2, h3⟩ := argsT_get 0 args k (g, x) hk
      simp only [Prod.mk.injEq] at h3
      obtain ⟨rfl, rfl⟩ := h3
      obtain ⟨v, hv, hx⟩ := hvs.get i x h2
      have hi : i < vs.length := (List.getElem?_eq_some_iff.1 hv).1
      refine ⟨v, ?_, fun _ => hx, fun hg => by simp at hg⟩
      show (vs.toArray ++ _)[k]? = _
      rw [h1, Nat.zero_add, Array.getElem?_append_left (by simpa using hi)]
      simpa using hv
    bx := by
      intro n cs hn
      obtain ⟨i, h1, h2⟩ := boxesB_get 0 bs n cs hn
      rw [h1, Nat.zero_add]
      exact hbx i cs h2
    ow := by intro p sz hp; simp [St.own, st0, getO] at hp
    wf := hwf
    olB := fun b o n _ hn => .inl ⟨n, hn⟩
    olO := fun b o p _ hn => ⟨p, hn⟩
    nt := by
      show (vs.toArray ++ Array.replicate (fn.ntmps - vs.toArray.size) undef).size = N
      simp; omega
    oA := fun _ => rfl
    im := fun b o h => h
    im' := fun b o _ h => .inl h
    fr := Fr.refl _ _ _
    hB := Nat.le_refl _
    lo := fun b o _ => ⟨fun k hk => by obtain ⟨_, _, _, e, _⟩ := hbox b o _ hk; simp at e, fun p => hown b o p⟩ }
  refine calls_of_wp hf hb ?_
  have hwp := h E G a w hrel rfl
  refine wp_mono hwp ?_
  rintro e a' w' ⟨G', s, hq, hr'⟩
  have key : resX Z.T s rs = some res ∧ ownOf s rs ro ∧ (∀ (j : Nat) (cs : List C), bs'[j]? = some cs → s.box (.o j) = some cs) →
      a'.defers = [] ∧ ∃ v, (results fn a'.tmps).run Z.P w' = .ok v w' ∧ ∃ u G', Ending.returned v = .returned u ∧ Fr (fun b o => ∃ n, G.W b o = .box n) w.heap.size w w' ∧
        (∀ b o, G.W b o = .imm → G'.W b o = .imm) ∧ (∀ b o, b < w.heap.size → G'.W b o = .imm → G.W b o = .imm) ∧ (∀ b o, G'.W b o ≠ .none → b < w'.heap.size) ∧ XRep w' G' res u ∧
        (∀ j, G'.A (.o j) = G.A (.o j)) ∧ (∀ (j : Nat) (cs : List C), bs'[j]? = some cs → BoxAt w' G' (.o j) cs) ∧
        (∀ sz, ro = some sz → OwnAt w' G' (.t 0) sz u) ∧ (∀ b o, G'.W b o = .own (.t 0) → w.heap.size ≤ b) := by
    rintro ⟨hres, hro, hbs⟩
    refine ⟨hr'.df, ?_⟩
    unfold resX at hres
    have hys : ∃ ys, resYs Z.T s rs = some ys ∧ res = wrapYs ys := by
      split at hres
      · rename_i ys hy; simp only [Option.some.injEq] at hres; exact ⟨ys, hy, hres.symm⟩
      · simp at hres
    obtain ⟨ys, hys, rfl⟩ := hys
    obtain ⟨us, hrun, hall, hone⟩ := run_results hr' hys
    have hresv : ∃ v, (results fn a'.tmps).run Z.P w' = .ok v w' ∧ XRep w' G' (wrapYs ys) v ∧ (∀ t, rs = [.tmp t] → a'.tmps[t]? = some v) := by
      have hr0 : (results fn a'.tmps).run Z.P w' = .ok (if h : us.toArray.size = 1 then us.toArray[0] else .tuple us.toArray) w' := by
        rw [results_eq, hrs, List.mapM_toArray]
        simp only [Sem.run_bind, Sem.run_map, hrun, Result.andThen_ok, Sem.run_pure]
      refine ⟨_, hr0, ?_, ?_⟩
      · clear hres hrun hone hr0 hq hwp h hc hys
        cases ys with
        | nil => cases us with
          | nil => exact ⟨[], rfl, trivial⟩
          | cons _ _ => exact hall.elim
        | cons y r => cases us with
          | nil => exact hall.elim
          | cons u q =>
            cases r with
            | nil => cases q with
              | nil => exact hall.1
              | cons _ _ => exact hall.2.elim
            | cons y' r => cases q with
              | nil => exact hall.2.elim
              | cons u' q =>
                simp only [List.size_toArray, List.length_cons]
                rw [dif_neg (by omega)]
                exact ⟨_, rfl, hall⟩
      · intro t ht
        obtain ⟨v, rfl, hv⟩ := hone t ht
        exact hv
    obtain ⟨v, hv1, hv2, hv3⟩ := hresv
    refine ⟨v, hv1, ?_⟩
    have hfr : Fr (fun b o => ∃ n, G.W b o = .box n) w.heap.size w w' := hr'.fr.mono (Nat.le_refl _) fun b o _ hm => by
      rcases hm with ⟨n, hn⟩ | ⟨p, hp⟩
      · exact ⟨n, hn⟩
      · exact absurd hp (hown b o p)
    obtain ⟨k0, hk0⟩ : ∃ k0, k0 = slotOf rs := ⟨_, rfl⟩
    let G2 : Gh := { A := G'.A, W := fun b o => match G'.W b o with | .imm => .imm | .box (.o j) => .box (.o j) | .own (.t k) => if k = k0 then .own (.t 0) else .none | _ => .none }
    have hS : ∀ b o, G'.S b o → G2.S b o := fun b o hs => by unfold Gh.S at *; simp [G2, hs]
    have hI : ∀ b o, G2.W b o = .imm → G'.W b o = .imm := fun b o hi => by
      simp only [G2] at hi
      split at hi
      · assumption
      · simp at hi
      · split at hi <;> simp at hi
      · simp at hi
    have hO : ∀ b o, G2.W b o = .own (.t 0) → G'.W b o = .own (.t k0) := fun b o hi => by
      simp only [G2] at hi
      split at hi
      · simp at hi
      · simp at hi
      · rename_i k hk
        split at hi
        · rename_i he; subst he; exact hk
        · simp at hi
      · simp at hi
    refine ⟨v, G2, rfl, hfr, fun b o hi => hS b o (hr'.im b o hi), fun b o hb hi => ?_, fun b o hn => ?_, ?_, fun j => hr'.oA j, fun j cs hj => ?_, fun sz hsz => ?_, fun b o hi => ?_⟩
    · rcases hr'.im' b o hb (hI b o hi) with h1 | ⟨p, hp⟩
      · exact h1
      · exact absurd hp (hown b o p)
    · refine hr'.wf b o ?_
      intro he; apply hn; simp [G2, he]
    · exact hv2.mono hS (fun _ _ _ => rfl) (fun _ _ => rfl)
    · intro i c hi
      obtain ⟨h1, h2, u, h3, h4⟩ := hr'.bx _ _ (hbs j cs hj) i c hi
      exact ⟨by simp only [G2]; rw [h1], h2, u, h3, h4.mono hS (fun _ _ _ => rfl)⟩
    · subst hsz
      obtain ⟨t, rfl, hro⟩ : ∃ t, rs = [.tmp t] ∧ s.own (.t t) = some sz := by
        unfold ownOf at hro
        split at hro
        · rename_i hh; simp at hh
        · rename_i t _ hh
          simp only [Option.some.injEq] at hh
          subst hh
          exact ⟨t, rfl, hro⟩
        · exact hro.elim
      obtain ⟨u, hu, ho⟩ := hr'.ow _ _ hro
      have hu' : a'.tmps[t]? = some u := hu
      rw [hv3 t rfl] at hu'
      simp only [Option.some.injEq] at hu'
      subst hu'
      rcases ho with ho | ⟨blk, len, cap, e, q1, q2, q3, q4⟩
      · exact .inl ho
      · refine .inr ⟨blk, len, cap, e, q1, q2, q3, fun o ho1 ho2 => ?_⟩
        obtain ⟨q5, q6⟩ := q4 o ho1 ho2
        refine ⟨?_, q6⟩
        have : k0 = t := hk0
        simp [G2, q5, this]
    · have := hO b o hi
      rcases Nat.lt_or_ge b w.heap.size with hlt | hge
      · obtain ⟨q, hq⟩ := hr'.olO b o _ hlt this
        exact absurd hq (hown b o q)
      · exact hge
  cases e <;> first
    | exact key hq
    | exact hq.elim
end Go.Abs
