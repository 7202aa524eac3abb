/- Regions and code over the abstract state; new blocks. -/
import Derived.Test.YtginljdgdllhfaaAbs4
set_option linter.unusedVariables false
set_option linter.unusedSimpArgs false
namespace Go.Abs
variable {Z : Pg}

/-! ### A world that has grown -/
theorem getB_filter (f : Nm → Bool) : ∀ (l : List (Nm × List C)) (p : Nm), getB (l.filter fun q => f q.1) p = if f p = true then getB l p else none
  | [], p => by simp [getB]
  | (q, e) :: r, p => by
    simp only [List.filter_cons]
    by_cases hq : q = p
    · subst hq
      by_cases hf : f q = true
      · simp [hf, getB_cons]
      · simp only [hf]
        rw [if_neg (by simp), getB_filter f r q]
        simp [hf]
    · split
      · rw [getB_cons, getB_cons, if_neg hq, if_neg hq, getB_filter f r p]
      · rw [getB_cons, if_neg hq, getB_filter f r p]

/-- The names that the state's slots, boxes and owners speak of keep their addresses. -/
structure SameA (st : St) (A A' : Nm → Nat × Nat) : Prop where
  t : ∀ k g x, st.get k = some (g, x) → ∀ n, x.has n = true → A' n = A n
  bx : ∀ n cs, st.box n = some cs → A' n = A n
  ow : ∀ n off sz, st.own (.b n off) = some sz → A' n = A n
  o : ∀ j, A' (.o j) = A (.o j)
theorem SameA.refl (st : St) (A : Nm → Nat × Nat) : SameA st A A := ⟨fun _ _ _ _ _ _ => rfl, fun _ _ _ => rfl, fun _ _ _ _ => rfl, fun _ => rfl⟩

theorem ValAt.lt {E : Env} {G : Gh} {st : St} {a : Act} {w : World} (h : Rel E G st a w) {p : Pl} {sz : Nat} (hp : st.own p = some sz) {n : Nm} {off : Nat} (he : p = .b n off) : (G.A n).1 < w.heap.size := by
  obtain ⟨v, hv, _⟩ := h.ow p sz hp
  subst he
  exact World.block_lt_of_cell? (a := ⟨(G.A n).1, (G.A n).2 + off, none⟩) w hv.1

theorem Rel.grow {E : Env} {G G1 : Gh} {st : St} {a : Act} {w w1 : World} (h : Rel E G st a w) (hf : Fr (fun _ _ => False) w.heap.size w w1)
    (hW : ∀ b o, b < w.heap.size → G1.W b o = G.W b o) (hA : SameA st G.A G1.A) (hwf : ∀ b o, G1.W b o ≠ .none → b < w1.heap.size) : Rel E G1 st a w1 := by
  have hB : E.B ≤ w.heap.size := Nat.le_trans h.hB h.fr.size
  have hS : ∀ b o, G.S b o → G1.S b o := fun b o hs => by
    unfold Gh.S at *
    rw [hW b o (h.wf b o (by rw [hs]; simp))]
    exact hs
  have hc : ∀ b o, b < w.heap.size → w1.cell? ⟨b, o, none⟩ = w.cell? ⟨b, o, none⟩ := fun b o hb => hf.cell b o hb (fun x => x)
  have hcS : ∀ b o, G.S b o → w1.cell? ⟨b, o, none⟩ = w.cell? ⟨b, o, none⟩ := fun b o hs => hc b o (h.wf b o (by unfold Gh.S at hs; rw [hs]; simp))
  constructor
  · exact h.df
  · intro k g x hk
    obtain ⟨v, hv, h1, h2⟩ := h.tm k g x hk
    exact ⟨v, hv, fun hg => (h1 hg).mono hS hcS (hA.t k g x hk), h2⟩
  · intro n cs hn j c hj
    obtain ⟨h1, h2, v, h3, h4⟩ := h.bx n cs hn j c hj
    have hlt : (G.A n).1 < w.heap.size := World.block_lt_of_cell? (a := ⟨(G.A n).1, (G.A n).2 + j, none⟩) w h3
    rw [hA.bx n cs hn]
    exact ⟨by rw [hW _ _ hlt]; exact h1, by rw [hf.frozen _ _ hlt]; exact h2, v, by rw [hc _ _ hlt]; exact h3, h4.mono hS hcS⟩
  · intro p sz hp
    obtain ⟨v, hv, ho⟩ := h.ow p sz hp
    refine ⟨v, ?_, ?_⟩
    · cases p with
      | t k => exact hv
      | b n off =>
        show w1.cell? _ = _ ∧ G1.W _ _ = _
        rw [hA.ow n off sz hp, hc _ _ (ValAt.lt h hp rfl), hW _ _ (ValAt.lt h hp rfl)]
        exact hv
    · rcases ho with ho | ⟨blk, len, cap, e, h1, h2, h3, h4⟩
      · exact .inl ho
      · by_cases hz : len * sz < cap * sz
        · have hlt := h.wf blk (len * sz) (by rw [(h4 _ (Nat.le_refl _) hz).1]; simp)
          exact .inr ⟨blk, len, cap, e, h1, h2, by rw [hf.shape blk hlt]; exact h3, fun o ho1 ho2 => by
            rw [hW blk o hlt, hf.frozen blk o hlt]; exact h4 o ho1 ho2⟩
        · have hlt : blk < w.heap.size := by
            rcases Nat.lt_or_ge blk w.heap.size with hx | hx
            · exact hx
            · simp [World.shape?, Array.getElem?_eq_none hx] at h3
          exact .inr ⟨blk, len, cap, e, h1, h2, by rw [hf.shape blk hlt]; exact h3, fun o ho1 ho2 => by omega⟩
  · exact hwf
  · intro b o n hb hn
    rw [hW b o (by omega)] at hn
    exact h.olB b o n hb hn
  · intro b o p hb hn
    rw [hW b o (by omega)] at hn
    exact h.olO b o p hb hn
  · exact h.nt
  · exact fun j => (hA.o j).trans (h.oA j)
  · intro b o hi
    have := h.im b o hi
    exact hS b o this
  · intro b o hb hi
    rw [hW b o (by omega)] at hi
    exact h.im' b o hb hi
  · exact h.fr.trans (hf.mono hB (fun _ _ _ x => x.elim))
  · exact h.hB
  · intro b o hb
    rw [hW b o (by omega)]
    exact h.lo b o hb

/-! ### One new block -/
theorem fr_alloc (w : World) (o : Obj) : Fr (fun _ _ => False) w.heap.size w (w.alloc o) where
  os := rfl
  tape := rfl
  output := rfl
  size := by simp
  block := fun b hb _ => RowKit.Below.heap_alloc _ _ _ hb
  cell := fun b o' hb _ => World.cell?_alloc_lt w o _ hb
  frozen := fun b o' hb => World.frozen?_alloc_old w o _ (by simp; omega)
  shape := fun b hb => by
    have := RowKit.Below.heap_alloc w o b hb
    unfold World.shape?
    rw [this]

/-- The ghost with a new block. -/
def Gh.push (G : Gh) (n : Nat) (f : Nat → Who) : Gh := { G with W := fun b o => if b = n then f o else G.W b o }
def Gh.name (G : Gh) (n : Nm) (x : Nat × Nat) : Gh := { G with A := fun m => if m = n then x else G.A m }

/-- 'n' stands nowhere in the slots. -/
def St.fresh (st : St) (n : Nm) : Bool := st.t.all fun e => !e.2.2.has n
/-- Does a place lie in the box 'n'? -/
def Pl.inBox (n : Nm) : Pl → Bool
  | .b m _ => Nm.beq m n
  | .t _ => false
/-- The state without the box 'n'. -/
def St.drop (st : St) (n : Nm) : St :=
  { t := st.t, bx := st.bx.filter fun q => !Nm.beq q.1 n, ow := st.ow.filter fun q => !Pl.inBox n q.1 }
theorem St.drop_box (st : St) (n m : Nm) : (st.drop n).box m = if m = n then none else st.box m := by
  show getB (st.bx.filter fun q => !Nm.beq q.1 n) m = _
  rw [getB_filter (fun q => !Nm.beq q n)]
  by_cases h : m = n
  · subst h; simp [Nm.beq_self]
  · simp [h, Nm.beq_ne h, St.box]
theorem St.drop_own (st : St) (n : Nm) (p : Pl) : (st.drop n).own p = if Pl.inBox n p = true then none else st.own p := by
  show getO (st.ow.filter fun q => !Pl.inBox n q.1) p = _
  rw [getO_filter (fun q => !Pl.inBox n q)]
  cases hb : Pl.inBox n p <;> simp [St.own]
theorem St.drop_sub (st : St) (n : Nm) : Sub (st.drop n) st where
  t := fun _ _ h => h
  bx := fun m cs h => by
    rw [St.drop_box] at h
    split at h
    · simp at h
    · exact h
  ow := fun p sz h => by
    rw [St.drop_own] at h
    split at h
    · simp at h
    · exact h
theorem getT_mem : ∀ {l : List (Nat × Bool × X)} {k : Nat} {e : Bool × X}, getT l k = some e → (k, e) ∈ l
  | [], k, e, h => by simp [getT] at h
  | (j, e') :: r, k, e, h => by
    rw [getT_cons] at h
    split at h
    · rename_i hj; subst hj; simp at h; subst h; simp
    · exact List.mem_cons_of_mem _ (getT_mem h)
theorem St.fresh_has {st : St} {n : Nm} (h : st.fresh n = true) {k : Nat} {g : Bool} {x : X} (hk : st.get k = some (g, x)) : x.has n = false := by
  have := List.all_eq_true.1 h _ (getT_mem hk)
  simpa using this
/-- Nobody bears the name: no slot (if it is to be given anew), and no place in the box owns anything. -/
def FreshG (st : St) (n : Nm × Bool) : Prop := (n.2 = true → ∀ k g x, st.get k = some (g, x) → x.has n.1 = false) ∧ ∀ p sz, st.own p = some sz → Pl.inBox n.1 p = false
def St.freshO (st : St) (n : Nm × Bool) : Bool := (!n.2 || st.fresh n.1) && st.ow.all fun q => !Pl.inBox n.1 q.1
theorem getO_mem : ∀ {l : List (Pl × Nat)} {p : Pl} {sz : Nat}, getO l p = some sz → (p, sz) ∈ l
  | [], p, sz, h => by simp [getO] at h
  | (q, e) :: r, p, sz, h => by
    rw [getO_cons] at h
    split at h
    · rename_i he; subst he; simp at h; subst h; simp
    · have := getO_mem h; simp [this]
theorem St.freshO_ok {st : St} {n : Nm × Bool} (h : st.freshO n = true) : FreshG st n := by
  unfold St.freshO at h
  rw [Bool.and_eq_true] at h
  refine ⟨fun hn k g x hk => St.fresh_has (by have := h.1; rw [hn] at this; simpa using this) hk, fun p sz hp => ?_⟩
  have := List.all_eq_true.1 h.2 _ (getO_mem hp)
  simpa using this
theorem St.drop_same {st : St} {k0 : Nat} {n : Nm} (hn : n = .l k0) (h : ∀ k g x, st.get k = some (g, x) → x.has n = false) (A : Nm → Nat × Nat) (x : Nat × Nat) : SameA (st.drop n) A (fun m => if m = n then x else A m) where
  t := fun k g x' hk m hm => by
    have : m ≠ n := fun e => by subst e; have := h k g x' hk; rw [hm] at this; simp at this
    simp [this]
  bx := fun m cs hm => by
    rw [St.drop_box] at hm
    split at hm
    · simp at hm
    · rename_i hne; simp [hne]
  ow := fun m off sz hm => by
    rw [St.drop_own] at hm
    split at hm
    · simp at hm
    · rename_i hne
      have : m ≠ n := fun e => hne (by subst e; simp [Pl.inBox, Nm.beq_self])
      simp [this]
  o := fun j => by subst hn; simp

def St.addBox (st : St) (n : Nm) (cs : List C) : St := { (st.drop n) with bx := (n, cs) :: (st.drop n).bx }
theorem Rel.addBox {E : Env} {G : Gh} {st : St} {a : Act} {w : World} {n : Nm} {cs : List C} (h : Rel E G (st.drop n) a w) (hb : BoxAt w G n cs) : Rel E G (st.addBox n cs) a w where
  df := h.df
  tm := h.tm
  bx := by
    intro m ds hm
    have : (st.addBox n cs).box m = if n = m then some cs else (st.drop n).box m := getB_cons _ _ _ _
    rw [this] at hm
    split at hm
    · rename_i he; subst he; simp at hm; subst hm; exact hb
    · exact h.bx m ds hm
  ow := h.ow
  wf := h.wf
  olB := h.olB
  olO := h.olO
  nt := h.nt
  oA := h.oA
  im := h.im
  im' := h.im'
  fr := h.fr
  hB := h.hB
  lo := h.lo

/-- A new box. -/
theorem Rel.newBox {E : Env} {G : Gh} {st : St} {a : Act} {w : World} (h : Rel E G st a w) {d : Nat} (hfr : ∀ k g x, st.get k = some (g, x) → x.has (.l d) = false) {cs : List C} {vs : Array Value} {t : TypeId}
    (hv : All2 (CRep w G.S) cs vs.toList) :
    ∃ G', Rel E G' (st.addBox (.l d) cs) a (w.alloc (.cells vs t)) ∧ G'.A (.l d) = (w.heap.size, 0) := by
  refine ⟨(G.push w.heap.size fun o => if o < cs.length then .box (.l d) else .none).name (.l d) (w.heap.size, 0), ?_, by simp [Gh.name]⟩
  refine Rel.addBox ?_ ?_
  · refine (h.sub (St.drop_sub st (.l d))).grow (fr_alloc w _) ?_ (St.drop_same rfl hfr _ _) ?_
    · intro b o hb
      have : ¬ b = w.heap.size := by omega
      simp [Gh.name, Gh.push, this]
    · intro b o hne
      simp only [Gh.name, Gh.push] at hne
      split at hne
      · rename_i hb; subst hb; simp
      · have := h.wf b o hne; simp; omega
  · intro j c hj
    have hjl : j < cs.length := (List.getElem?_eq_some_iff.1 hj).1
    obtain ⟨v, hv', hr⟩ := hv.get j c hj
    refine ⟨by simp [Gh.name, Gh.push, hjl], by simp [Gh.name], v, ?_, ?_⟩
    · simp only [Gh.name, if_true]
      rw [World.cell?_alloc_new]
      simpa using hv'
    · refine hr.mono ?_ ?_
      · intro b o hs
        have hb := h.wf b o (by unfold Gh.S at hs; rw [hs]; simp)
        have : ¬ b = w.heap.size := by omega
        simpa [Gh.S, Gh.name, Gh.push, this] using hs
      · intro b o hs
        have hb := h.wf b o (by unfold Gh.S at hs; rw [hs]; simp)
        exact World.cell?_alloc_lt w _ _ hb

/-! ### Regions -/
/-- What a region's end asks. -/
def Qn (K : Act → World → Prop) : Exit → Act → World → Prop
  | .normal, a, w => K a w
  | _, _, _ => False

/-- The operations 'rest' lead from 'st' to a state that 'K' holds of. -/
def AL (Z : Pg) (N : Nat) (ops : Array Oper) (rest : List Oper) (K : St → Prop) (st : St) : Prop :=
  ∀ (E : Env) (G : Gh) (a : Act) (w : World), Rel E G st a w → E.nt = N → ∀ K' : Act → World → Prop, (∀ st' G' a' w', K st' → Rel E G' st' a' w' → K' a' w') → wpList Z.P ops (Qn K') rest a w

def gateOf (ops : Array Oper) (st : St) (o : Oper) : Option Bool :=
  match o.guard with
  | none => some true
  | some (j, want) => match (ops[j]?).bind (·.dst) with
    | some d => (match st.get d with | some (g, .v (.c (.b x))) => some (g && (x == want)) | _ => none)
    | none => none

theorem wanted_gate {E : Env} {G : Gh} {st : St} {a : Act} {w : World} (hr : Rel E G st a w) {ops : Array Oper} {o : Oper} {gate : Bool} (h : gateOf ops st o = some gate) :
    Region.wanted o (yielded ops a.tmps) = gate := by
  unfold gateOf at h
  unfold Region.wanted
  split at h
  · rename_i hg; simp at h; subst h; simp [hg]
  · rename_i j want hg
    simp only [hg]
    split at h
    · rename_i d hd
      split at h
      · rename_i g x hx
        simp at h
        subst h
        obtain ⟨v, hv, h1, h2⟩ := hr.tm d g _ hx
        unfold yielded
        rw [hd]
        simp only [Option.bind_some, hv]
        cases g with
        | false => rw [h2 rfl]; simp [undef]
        | true =>
          have := XRep.bool (h1 rfl)
          subst this
          simp
      · simp at h
    · simp at h

theorem al_nil {N : Nat} {ops : Array Oper} {K : St → Prop} {st : St} (h : K st) : AL Z N ops [] K st :=
  fun _ G a w hr _ _ hK => hK st G a w h hr

/-- One operation (carried out or passed over) leads from 'st' to 'st''. -/
def Op1 (Z : Pg) (N : Nat) (ops : Array Oper) (o : Oper) (st st' : St) : Prop :=
  ∀ (E : Env) (G : Gh) (a : Act) (w : World), Rel E G st a w → E.nt = N → ∀ (K : Act → World → Prop) (Q : Exit → Act → World → Prop), (∀ G' v w', Rel E G' st' (a.put o.dst v) w' → K (a.put o.dst v) w') →
    if Region.wanted o (yielded ops a.tmps) then o.wp Z.P a w K Q else K (a.put o.dst undef) w

theorem Op1.sub {N : Nat} {ops : Array Oper} {o : Oper} {st st' s' : St} (h : Op1 Z N ops o st st') (hs : Sub s' st') : Op1 Z N ops o st s' :=
  fun E G a w hr hE K Q hK => h E G a w hr hE K Q fun G' v w' hr' => hK G' v w' (hr'.sub hs)

theorem al_op1 {N : Nat} {ops : Array Oper} {rest : List Oper} {K : St → Prop} {st st' : St} {o : Oper} (hp : Op1 Z N ops o st st') (h : AL Z N ops rest K st') : AL Z N ops (o :: rest) K st := by
  intro E G a w hr hE K' hK
  have := hp E G a w hr hE (wpList Z.P ops (Qn K') rest) (Qn K') fun G' v w' hr' => h E G' _ w' hr' hE K' hK
  unfold wpList
  split at this
  · rename_i hw; rw [if_pos hw]; exact .inl this
  · rename_i hw; rw [if_neg hw]; exact this

/-- An operation that yields a value. -/
theorem op1_pure {N : Nat} {ops : Array Oper} {st : St} {o : Oper} {gate : Bool} {d : Nat} {x : X} (hg : gateOf ops st o = some gate) (hd : o.dst = some d) (hN : Nat.ble (d + 1) N = true)
    (hp : PureOk Z st o.op o.type gate x) : Op1 Z N ops o st (st.put d (gate, x)) := by
  intro E G a w hr hE K Q hK
  have hdN : d < E.nt := by rw [hE]; exact Nat.le_of_ble_eq_true hN
  rw [wanted_gate hr hg, hd]
  rw [hd] at hK
  cases gate with
  | true =>
    obtain ⟨v, hx, hrun⟩ := hp o E G a w rfl rfl hr rfl
    simp only [if_true]
    unfold Oper.wp
    rw [hrun, Oper.upon_value, hd]
    exact hK G v w (hr.put hdN (fun _ => hx) (fun hf => by simp at hf))
  | false =>
    simp only [Bool.false_eq_true, if_false]
    exact hK G undef w (hr.put hdN (fun hf => by simp at hf) (fun _ => rfl))
theorem al_pure {N : Nat} {ops : Array Oper} {rest : List Oper} {K : St → Prop} {st : St} {o : Oper} {gate : Bool} {d : Nat} {x : X} (hg : gateOf ops st o = some gate) (hd : o.dst = some d) (hN : Nat.ble (d + 1) N = true)
    (hp : PureOk Z st o.op o.type gate x) (h : AL Z N ops rest K (st.put d (gate, x))) : AL Z N ops (o :: rest) K st := al_op1 (op1_pure hg hd hN hp) h

/-- An operation that changes more than its slot: it must not be guarded. -/
def Does (Z : Pg) (N : Nat) (st : St) (dst : Option Nat) (op : Op) (ty : TypeId) (st' : St) : Prop :=
  ∀ (o : Oper) (E : Env) (G : Gh) (a : Act) (w : World), o.dst = dst → o.op = op → o.type = ty → Rel E G st a w → E.nt = N → ∀ (K : Act → World → Prop) (Q : Exit → Act → World → Prop),
    (∀ G' v w', Rel E G' st' (a.put dst v) w' → K (a.put dst v) w') → o.wp Z.P a w K Q

theorem op1_do {N : Nat} {ops : Array Oper} {st st' : St} {o : Oper} (hg : gateOf ops st o = some true)
    (hp : Does Z N st o.dst o.op o.type st') : Op1 Z N ops o st st' := by
  intro E G a w hr hE K Q hK
  rw [wanted_gate hr hg]
  simp only [if_true]
  exact hp o E G a w rfl rfl rfl hr hE _ _ hK
theorem al_do {N : Nat} {ops : Array Oper} {rest : List Oper} {K : St → Prop} {st st' : St} {o : Oper} (hg : gateOf ops st o = some true)
    (hp : Does Z N st o.dst o.op o.type st') (h : AL Z N ops rest K st') : AL Z N ops (o :: rest) K st := al_op1 (op1_do hg hp) h

theorem al_sub {N : Nat} {ops : Array Oper} {rest : List Oper} {K : St → Prop} {st s : St} (hs : Sub s st) (h : AL Z N ops rest K s) : AL Z N ops rest K st :=
  fun E G a w hr hE K' hK => h E G a w (hr.sub hs) hE K' hK

/-! ### Code -/
def AWP (Z : Pg) (N : Nat) (c : Code) (Q : Exit → St → Prop) (st : St) : Prop :=
  ∀ (E : Env) (G : Gh) (a : Act) (w : World), Rel E G st a w → E.nt = N → c.wp Z.P (fun e a' w' => ∃ G' st', Q e st' ∧ Rel E G' st' a' w') a w

def thenS (next : St → Prop) (Q : Exit → St → Prop) : Exit → St → Prop
  | .normal, s => next s
  | e, s => Q e s
def blockS (id : Nat) (Q : Exit → St → Prop) : Exit → St → Prop
  | .exit id', s => if id' = id then Q .normal s else Q (.exit id') s
  | e, s => Q e s

section
variable {N : Nat} {Q : Exit → St → Prop} {st : St}

theorem awp_region {id : Nat} {ops : List Oper} (h : AL Z N ops.toArray ops (Q .normal) st) : AWP Z N (.region id ops.toArray false) Q st := by
  intro E G a w hr hE
  refine wp_mono (wp_region_lit (h E G a w hr hE (fun a' w' => ∃ G' st', Q .normal st' ∧ Rel E G' st' a' w') fun st' G' a' w' hq hr' => ⟨G', st', hq, hr'⟩)) ?_
  intro e a' w' hq
  cases e <;> first | exact hq | exact hq.elim

theorem awp_skip (h : Q .normal st) : AWP Z N .skip Q st := fun _ G _ _ hr _ => wp_skip ⟨G, st, h, hr⟩
theorem awp_exit {id : Nat} (h : Q (.exit id) st) : AWP Z N (.exit id) Q st := fun _ G _ _ hr _ => wp_exit ⟨G, st, h, hr⟩
theorem awp_ret (h : Q .ret st) : AWP Z N .ret Q st := fun _ G _ _ hr _ => wp_ret ⟨G, st, h, hr⟩
theorem awp_mono {c : Code} {Q' : Exit → St → Prop} (h : AWP Z N c Q st) (hq : ∀ e s, Q e s → Q' e s) : AWP Z N c Q' st :=
  fun E G a w hr hE => wp_mono (h E G a w hr hE) fun _ _ _ ⟨G', st', h1, h2⟩ => ⟨G', st', hq _ _ h1, h2⟩
theorem awp_sub {c : Code} {s : St} (hs : Sub s st) (h : AWP Z N c Q s) : AWP Z N c Q st :=
  fun E G a w hr hE => h E G a w (hr.sub hs) hE

theorem awp_seq {x y : Code} (h : AWP Z N x (thenS (AWP Z N y Q) Q) st) : AWP Z N (x.seq y) Q st := by
  intro E G a w hr hE
  refine wp_seq (wp_mono (h E G a w hr hE) ?_)
  rintro e a' w' ⟨G', st', hq, hr'⟩
  cases e <;> first
    | exact hq E G' a' w' hr' hE
    | exact ⟨G', st', hq, hr'⟩

theorem awp_block {id : Nat} {c : Code} (h : AWP Z N c (blockS id Q) st) : AWP Z N (.block id c) Q st := by
  intro E G a w hr hE
  refine wp_block (wp_mono (h E G a w hr hE) ?_)
  rintro e a' w' ⟨G', st', hq, hr'⟩
  cases e with
  | exit id' =>
    simp only [blockS, Exit.inBlock] at hq ⊢
    split
    · rename_i he; rw [if_pos he] at hq; exact ⟨G', st', hq, hr'⟩
    · rename_i he; rw [if_neg he] at hq; exact ⟨G', st', hq, hr'⟩
  | normal => exact ⟨G', st', hq, hr'⟩
  | goto l => exact ⟨G', st', hq, hr'⟩
  | ret => exact ⟨G', st', hq, hr'⟩
  | panic ch => exact ⟨G', st', hq, hr'⟩
  | outgrown => exact ⟨G', st', hq, hr'⟩

theorem awp_cond {c : Operand} {x y : Code} {b : Bool} (hc : lk Z.T st 0 c = some (true, .v (.c (.b b)))) (ht : b = true → AWP Z N x Q st) (hf : b = false → AWP Z N y Q st) :
    AWP Z N (.cond c x y) Q st := by
  intro E G a w hr hE
  have h1 := XRep.bool (lk_rep hr hc rfl)
  exact wp_cond_split h1 (fun h => ht h E G a w hr hE) (fun h => hf h E G a w hr hE)

theorem wp_loop_ind {P : Program} {c : Code} {Q : Exit → Act → World → Prop} (I : Nat → Act → World → Prop) (n : Nat) {a : Act} {w : World} (h0 : I n a w)
    (round : ∀ n a w, I n a w → c.wp P (Exit.then (fun a' w' => ∃ m, m < n ∧ I m a' w') Q) a w) : (Code.loop c).wp P Q a w := by
  intro b k cs
  have key : ∀ n a w, I n a w → ∃ e a' w', Q e a' w' ∧ Arrives P (lone (b.at a (.code c :: .inLoop c :: k)) cs w) b k cs e a' w' := by
    intro n
    induction n using Nat.strongRecOn with
    | _ n ih =>
      intro a w hI
      obtain ⟨e, a1, w1, hq, harr⟩ := round n a w hI b (.inLoop c :: k) cs
      cases e with
      | normal =>
        obtain ⟨m, hlt, hI1⟩ := hq
        obtain ⟨e2, a2, w2, hq2, harr2⟩ := ih m hlt a1 w1 hI1
        exact ⟨e2, a2, w2, hq2, .of_steps (Steps.trans harr (.one step_inLoop)) harr2⟩
      | exit id => exact ⟨_, a1, w1, hq, .pass (x := .inLoop c) rfl (fun _ _ => .inl (by simp)) harr⟩
      | goto l => exact ⟨_, a1, w1, hq, .pass (x := .inLoop c) rfl (fun _ _ => .inl (by simp)) harr⟩
      | ret => exact ⟨_, a1, w1, hq, .pass (x := .inLoop c) rfl (fun _ _ => .inl (by simp)) harr⟩
      | panic ch => exact ⟨_, a1, w1, hq, .pass (x := .inLoop c) rfl (fun _ _ => .inl (by simp)) harr⟩
      | outgrown => exact ⟨_, a1, w1, hq, .pass (x := .inLoop c) rfl (fun _ _ => .inl (by simp)) harr⟩
  obtain ⟨e, a', w', hq, harr⟩ := key n a w h0
  exact ⟨e, a', w', hq, .of_steps (.one step_loop) harr⟩

/-- A loop: 'S i' is the state at a round's head, 'ok' what holds of 'i', 'm' what every round lowers. -/
theorem awp_loop {ι : Type} {c : Code} (S : ι → St) (ok : ι → Prop) (m : ι → Nat) (i0 : ι) (h0 : ok i0) (hs : Sub (S i0) st)
    (round : ∀ i, ok i → AWP Z N c (thenS (fun s => ∃ j, ok j ∧ m j < m i ∧ Sub (S j) s) Q) (S i)) : AWP Z N (.loop c) Q st := by
  intro E G a w hr hE
  refine wp_loop_ind (fun n a' w' => ∃ i G', m i = n ∧ ok i ∧ Rel E G' (S i) a' w') (m i0) ⟨i0, G, rfl, h0, hr.sub hs⟩ ?_
  rintro n a' w' ⟨i, G', rfl, hi, hr'⟩
  refine wp_mono (round i hi E G' a' w' hr' hE) ?_
  rintro e a2 w2 ⟨G2, st2, hq, hr2⟩
  cases e <;> first
    | (obtain ⟨j, hj, hlt, hsub⟩ := hq; exact ⟨m j, hlt, j, G2, rfl, hj, hr2.sub hsub⟩)
    | exact ⟨G2, st2, hq, hr2⟩
end
end Go.Abs
