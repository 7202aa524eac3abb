/- Our abstract program logic and contracts of this seat's functions, part 6: no statement of its own. -/
import Derived.Test.YtgjclggjkhapfaaM5
import Derived.WalkKit
import Derived.Lib.Mul64
import Derived.Laws.Bits64b
import Derived.KernelRfl
import Derived.Test.YtgjclggjkhapfaaChecked
/- Pure calls; slices that stand in boxes by their value; a closure that sets an element of such a slice. -/
set_option linter.unusedVariables false
set_option linter.unusedSimpArgs false
namespace Go.Abs
variable {Z : Pg}

/-- A function that turns nothing. -/
theorem ctr_pure {f : FuncId} {args : List X} (us : List Value) {res : X} {v : Value} (hen : Enters Z f) (ha : ∀ (w : World) (G : Gh) (vs : List Value), All2 (XRep w G) args vs → vs = us)
    (hc : ∀ w, Calls Z.P f us.toArray w fun e w' => e = .returned v ∧ w' = w) (hr : ∀ w G, XRep w G res v) : Ctr Z f args [] res none [] := by
  refine ⟨hen, fun w G vs hvs hwf hbx hbox hown => ?_⟩
  obtain rfl := ha w G vs hvs
  refine (hc w).mono ?_
  rintro e w' ⟨rfl, rfl⟩
  exact ⟨v, G, rfl, Fr.refl _ _ _, fun _ _ h => h, fun _ _ _ h => h, hwf, hr _ _, fun _ => rfl, fun j cs h => by simp at h, fun sz h => by simp at h, fun b o h => absurd h (hown b o _)⟩

/-! ### Values of slices over boxes -/
def St.val (st : St) (k : Nat) (n : Nm) (sz off len : Nat) (u : Value) : St := { st with t := (k, true, .v (.msv n sz off len u)) :: st.t }
theorem Rel.val {E : Env} {G : Gh} {st : St} {a : Act} {w : World} (h : Rel E G st a w) {k sz off len : Nat} {n : Nm} (hs : st.get k = some (true, .v (.ms n sz off len))) (hl : 0 < len) : ∃ u, Rel E G (st.val k n sz off len u) a w := by
  obtain ⟨v, hv, hv1, _⟩ := h.tm _ _ _ hs
  refine ⟨v, { df := h.df, tm := ?_, bx := h.bx, ow := h.ow, wf := h.wf, olB := h.olB, olO := h.olO, nt := h.nt, oA := h.oA, im := h.im, im' := h.im', fr := h.fr, hB := h.hB, lo := h.lo, bd := h.bd }⟩
  intro j g x hj
  have hj2 : getT ((k, true, .v (.msv n sz off len v)) :: st.t) j = some (g, x) := hj
  rw [getT_cons] at hj2
  split at hj2
  · rename_i he; subst he
    simp only [Option.some.injEq, Prod.mk.injEq] at hj2
    obtain ⟨rfl, rfl⟩ := hj2
    refine ⟨v, hv, fun _ => ?_, fun hg => by simp at hg⟩
    rcases hv1 rfl with ⟨e, _⟩ | e
    · omega
    · exact ⟨rfl, e⟩
  · exact h.tm _ _ _ hj2
theorem al_val {N : Nat} {ops : Array Oper} {rest : List Oper} {K : St → Prop} {st : St} (k : Nat) {sz off len : Nat} {n : Nm} (hs : st.get k = some (true, .v (.ms n sz off len))) (hl : 0 < len)
    (h : ∀ u, AL Z N ops rest K (st.val k n sz off len u)) : AL Z N ops rest K st := fun E G a w hr hE => by
  obtain ⟨u, hu⟩ := hr.val hs hl
  exact h u E G a w hu hE
def St.same (st : St) (j : Nat) (n : Nm) (sz off len : Nat) : St := { st with t := (j, true, .v (.ms n sz off len)) :: st.t }
theorem Rel.same {E : Env} {G : Gh} {st : St} {a : Act} {w : World} (h : Rel E G st a w) {j k sz off len : Nat} {n : Nm} {u : Value} (hj : st.get j = some (true, .v (.c (.o u)))) (hs : st.get k = some (true, .v (.msv n sz off len u))) :
    Rel E G (st.same j n sz off len) a w := by
  obtain ⟨v, hv, hv1, _⟩ := h.tm _ _ _ hj
  obtain ⟨v', hv', hv2, _⟩ := h.tm _ _ _ hs
  have e1 : v = u := by
    have : CRep w G.S (.o u) v := hv1 rfl
    cases this; rfl
  subst e1
  refine { df := h.df, tm := ?_, bx := h.bx, ow := h.ow, wf := h.wf, olB := h.olB, olO := h.olO, nt := h.nt, oA := h.oA, im := h.im, im' := h.im', fr := h.fr, hB := h.hB, lo := h.lo, bd := h.bd }
  intro i g x hi
  have hj2 : getT ((j, true, .v (.ms n sz off len)) :: st.t) i = some (g, x) := hi
  rw [getT_cons] at hj2
  split at hj2
  · rename_i he; subst he
    simp only [Option.some.injEq, Prod.mk.injEq] at hj2
    obtain ⟨rfl, rfl⟩ := hj2
    refine ⟨v, hv, fun _ => ?_, fun hg => by simp at hg⟩
    obtain ⟨e, q⟩ := hv2 rfl
    subst e
    exact .inr q
  · exact h.tm _ _ _ hj2
theorem al_same {N : Nat} {ops : Array Oper} {rest : List Oper} {K : St → Prop} {st : St} (j k : Nat) {sz off len : Nat} {n : Nm} {u : Value} (hj : st.get j = some (true, .v (.c (.o u)))) (hs : st.get k = some (true, .v (.msv n sz off len u)))
    (h : AL Z N ops rest K (st.same j n sz off len)) : AL Z N ops rest K st := fun E G a w hr hE => h E G a w (hr.same hj hs) hE

/-! ### The closure -/
section
variable {st : St} {ty : TypeId} {gate : Bool}
theorem lkCaps {E : Env} {G : Gh} {a : Act} {w : World} (hr : Rel E G st a w) : ∀ {os : List Operand} {ys : List Y}, (os.map fun o => match o with | .tmp k => (match st.get k with | some (true, .v y) => some y | _ => none) | _ => none) = ys.map some →
    All2 (YRep w G) ys (os.map a.eval)
  | [], [], _ => trivial
  | [], _ :: _, h => by simp at h
  | _ :: _, [], h => by simp at h
  | o :: os, y :: ys, h => by
    simp only [List.map_cons, List.cons.injEq] at h
    refine ⟨?_, lkCaps hr h.2⟩
    have h1 := h.1
    split at h1
    · rename_i k
      split at h1
      · rename_i y' he
        simp only [Option.some.injEq] at h1; subst h1
        exact lk_rep (T := []) (ty := 0) (o := .tmp k) hr he rfl
      · simp at h1
    · simp at h1
theorem pure_makeFunc {f : FuncId} {caps : Array Operand} {ys : List Y} (h : (caps.toList.map fun o => match o with | .tmp k => (match st.get k with | some (true, .v y) => some y | _ => none) | _ => none) = ys.map some) :
    PureOk Z st (.makeFunc (.func f) #[] caps) ty gate (.fn f ys) := by
  intro o E G a w ho _ hr hgt
  refine ⟨.func (.func f) #[] (caps.toList.map a.eval).toArray, ⟨_, rfl, lkCaps hr h⟩, ?_⟩
  have : (caps.toList.map a.eval).toArray = caps.map a.eval := by rw [← Array.toList_map, Array.toArray_toList]
  rw [this]
  simp [execOp, ho, Instr.makeFunc]
end
/-- What the closure does: it sets the element with the index, where the index is not too great. -/
structure SetFn (Z : Pg) (f : FuncId) : Prop where
  en : Enters Z f
  run : ∀ (w : World) (pb po qb qo : Nat) (m n c : Int) (blk off len cap : Nat), w.cell? ⟨pb, po, none⟩ = some (.int .i64 n) → w.cell? ⟨qb, qo, none⟩ = some (.slice (some ⟨blk, off, none⟩) len cap) → 0 ≤ m → (len : Int) = n + 1 → (len : Int) < 9223372036854775807 →
    (∀ j, j < len → (w.cell? ⟨blk, off + j, none⟩).isSome = true) → (∀ j, j < len → w.frozen? ⟨blk, off + j, none⟩ = false) →
    Calls Z.P f #[.int .i64 m, .int .u64 c, .pointer (some ⟨pb, po, none⟩), .pointer (some ⟨qb, qo, none⟩)] w fun e w' => e = .returned (.tuple #[]) ∧ w' = if m ≤ n then w.setCell ⟨blk, off + m.toNat, none⟩ (.int .u64 c) else w
def setIf (cs : List C) (m n c : Int) : List C := if m ≤ n then setAt cs m.toNat [.i .u64 c] else cs
theorem setCells_one (w : World) (b o : Nat) (v : Value) : w.setCells b o [v] = w.setCell ⟨b, o, none⟩ v := rfl
theorem op1_clos {N : Nat} {ops : Array Oper} {st : St} {o : Oper} {d : Nat} {fo x y : Operand} {ts : Array TypeId} {f : FuncId} {a b r q : Nat} {m n c : Int} {len : Nat} {cs : List C} {u : Value} (S : SetFn Z f)
    (ho : o.op = .call { callee := .value fo, args := #[x, y], argTypes := ts }) (hg : gateOf ops st o = some true) (hd : o.dst = some d) (hN : Nat.ble (d + 1) N = true)
    (hf : lk Z.T st 0 fo = some (true, .fn f [.ptr (.l a) 0, .ptr (.l b) 0])) (hxy : lkAll Z.T st ts.toList [x, y] = some (true, [.v (.c (.i .i64 m)), .v (.c (.i .u64 c))]))
    (hba : st.box (.l a) = some [.i .i64 n]) (hbb : st.box (.l b) = some [.o u]) (hq : st.get q = some (true, .v (.msv (.l r) 1 0 len u))) (hbr : st.box (.l r) = some cs) (hl : cs.length = len) (hn : (len : Int) = n + 1) (hm : 0 ≤ m) (hmx : (len : Int) < 9223372036854775807) :
    Op1 Z N ops o st ((st.store (.l r) (setIf cs m n c) m.toNat 1).put d (true, .tup [])) := by
  intro E G ac w hr hE K' Q' hK
  have hdN : d < E.nt := by rw [hE]; exact Nat.le_of_ble_eq_true hN
  rw [wanted_gate hr hg]
  simp only [if_true]
  obtain ⟨cvs, hfv, hcv⟩ := lk_rep hr hf rfl
  match cvs, hcv with
  | [v1, v2], ⟨hv1, hv2, _⟩ =>
  obtain ⟨hx, hy, _⟩ := lkAll_rep hr hxy rfl
  have hx1 := XRep.int hx
  have hy1 := XRep.int hy
  have hv1' : v1 = .pointer (some ⟨(G.A (.l a)).1, (G.A (.l a)).2 + 0, none⟩) := hv1
  have hv2' : v2 = .pointer (some ⟨(G.A (.l b)).1, (G.A (.l b)).2 + 0, none⟩) := hv2
  subst hv1'; subst hv2'
  obtain ⟨uq, _, huq, _⟩ := hr.tm _ _ _ hq
  obtain ⟨e1, cap, _, e2⟩ := huq rfl
  subst e1
  obtain ⟨_, _, va, ha1, ha2⟩ := hr.bx _ _ hba 0 _ rfl
  obtain ⟨_, _, vb, hb1, hb2⟩ := hr.bx _ _ hbb 0 _ rfl
  have ha3 : va = .int .i64 n := by cases ha2; rfl
  have hb3 : vb = uq := by cases hb2; rfl
  subst ha3; subst hb3
  rw [e2] at hb1
  obtain ⟨q1, q2⟩ := cells_there (hr.bx _ _ hbr) (off := 0) (len := len) (by omega)
  have hcall := S.run w (G.A (.l a)).1 ((G.A (.l a)).2 + 0) (G.A (.l b)).1 ((G.A (.l b)).2 + 0) m n c (G.A (.l r)).1 ((G.A (.l r)).2 + 0) len cap ha1 hb1 hm hn hmx
    (fun j hj => by have := q1 j hj; simpa using this) (fun j hj => by have := q2 j hj; simpa using this)
  unfold Oper.wp
  rw [run_call ho hfv S.en, Oper.upon_enter]
  have hargs : ((#[x, y] : Array Operand).toList.map ac.eval ++ [Value.pointer (some ⟨(G.A (.l a)).1, (G.A (.l a)).2 + 0, none⟩), Value.pointer (some ⟨(G.A (.l b)).1, (G.A (.l b)).2 + 0, none⟩)]).toArray =
      #[.int .i64 m, .int .u64 c, .pointer (some ⟨(G.A (.l a)).1, (G.A (.l a)).2 + 0, none⟩), .pointer (some ⟨(G.A (.l b)).1, (G.A (.l b)).2 + 0, none⟩)] := by
    simp [hx1, hy1]
  rw [hargs]
  refine hcall.mono ?_
  rintro e w' ⟨rfl, rfl⟩
  dsimp only
  rw [hd] at hK ⊢
  refine hK G _ _ (Rel.put (st := st.store (.l r) (setIf cs m n c) m.toNat 1) ?_ hdN (g := true) (fun _ => ⟨[], rfl, trivial⟩) (fun hf => by simp at hf))
  unfold setIf
  split
  · rename_i hle
    have := hr.storeAll [.i .u64 c] [.int .u64 c] (n := .l r) (off := m.toNat) hbr (by simp; omega) ⟨CRep.i _ _, trivial⟩ (fun h => by simp [Nm.isBd] at h)
    rw [Nat.add_zero]
    exact this
  · refine Rel.sub (st := st) ⟨fun _ _ x => x, ?_, ?_⟩ hr
    · intro i ds hi
      rw [St.store_box] at hi
      split at hi
      · rename_i he; subst he; rw [hbr]; exact hi
      · exact hi
    · intro p s hp
      rw [St.store_own] at hp
      split at hp
      · simp at hp
      · exact hp
theorem al_clos {N : Nat} {ops : Array Oper} {rest : List Oper} {K : St → Prop} {st : St} {o : Oper} {d : Nat} {fo x y : Operand} {ts : Array TypeId} {f : FuncId} {a b r : Nat} (q : Nat) {m n c : Int} {len : Nat} {cs : List C} {u : Value} (S : SetFn Z f)
    (ho : o.op = .call { callee := .value fo, args := #[x, y], argTypes := ts }) (hg : gateOf ops st o = some true) (hd : o.dst = some d) (hN : Nat.ble (d + 1) N = true)
    (hf : lk Z.T st 0 fo = some (true, .fn f [.ptr (.l a) 0, .ptr (.l b) 0])) (hxy : lkAll Z.T st ts.toList [x, y] = some (true, [.v (.c (.i .i64 m)), .v (.c (.i .u64 c))]))
    (hba : st.box (.l a) = some [.i .i64 n]) (hbb : st.box (.l b) = some [.o u]) (hq : st.get q = some (true, .v (.msv (.l r) 1 0 len u))) (hbr : st.box (.l r) = some cs) (hl : cs.length = len) (hn : (len : Int) = n + 1) (hm : 0 ≤ m) (hmx : (len : Int) < 9223372036854775807)
    (h : AL Z N ops rest K ((st.store (.l r) (setIf cs m n c) m.toNat 1).put d (true, .tup []))) : AL Z N ops (o :: rest) K st :=
  al_op1 (op1_clos S ho hg hd hN hf hxy hba hbb hq hbr hl hn hm hmx) h
theorem dr_clos {N : Nat} {ops : Array Oper} {rest : List Oper} {st : St} {o : Oper} {s0 : St} {B : List Nat} {k : Nat} {acc : List Lnk} {Q : St → Prop} {d : Nat} {fo x y : Operand} {ts : Array TypeId} {f : FuncId} (a b r q : Nat) {m n c : Int} {len : Nat} {cs : List C} {u : Value} {R : Foot} (S : SetFn Z f)
    (hR : R = { foot ops o [.l a, .l b, .l r] [] with rt := q :: slotsOf ops o }) (hk : ops[k]? = some o)
    (ho : o.op = .call { callee := .value fo, args := #[x, y], argTypes := ts }) (hg : gateOf ops (rs R st) o = some true) (hd : o.dst = some d) (hN : Nat.ble (d + 1) N = true)
    (hf : lk Z.T (rs R st) 0 fo = some (true, .fn f [.ptr (.l a) 0, .ptr (.l b) 0])) (hxy : lkAll Z.T (rs R st) ts.toList [x, y] = some (true, [.v (.c (.i .i64 m)), .v (.c (.i .u64 c))]))
    (hba : (rs R st).box (.l a) = some [.i .i64 n]) (hbb : (rs R st).box (.l b) = some [.o u]) (hq : (rs R st).get q = some (true, .v (.msv (.l r) 1 0 len u))) (hbr : (rs R st).box (.l r) = some cs) (hl : cs.length = len) (hn : (len : Int) = n + 1) (hm : 0 ≤ m) (hmx : (len : Int) < 9223372036854775807)
    (hr : Draw Z N s0 ops B (k + 1) rest (acc ++ [(k, { d := some (d, true, .tup []), b := some (.l r, setIf cs m n c), drop := .t d :: cellPls (.l r) m.toNat 1 }, R)]) (ap { d := some (d, true, .tup []), b := some (.l r, setIf cs m n c), drop := .t d :: cellPls (.l r) m.toNat 1 } st) Q) :
    Draw Z N s0 ops B k (o :: rest) acc st Q := by
  refine dr_cons hk (e := { d := some (d, true, .tup []), b := some (.l r, setIf cs m n c), drop := .t d :: cellPls (.l r) m.toNat 1 }) (R := R) ?_ hr (by subst hR; intro n hn; exact absurd hn (List.not_mem_nil))
  intro s2 hag _
  refine (op1_clos S ho (gateOf_sub hag.sub hg) hd hN (lk_sub hag.sub hf) (lkAll_sub hag.sub hxy) (hag.sub.bx _ _ hba) (hag.sub.bx _ _ hbb) (hag.sub.t _ _ hq) (hag.sub.bx _ _ hbr) hl hn hm hmx).sub ⟨?_, ?_, ?_⟩
  · intro j e hj
    rw [ap_get] at hj
    rw [St.put_get]
    simp only [Eff.gt] at hj
    by_cases h : d = j
    · subst h; simpa using hj
    · have h' : ¬ j = d := fun e => h e.symm
      rw [if_neg h']
      show s2.get j = _
      simpa [h] using hj
  · intro m' ds hm'
    rw [ap_box] at hm'
    show (s2.store (.l r) (setIf cs m n c) m.toNat 1).box m' = _
    rw [St.store_box]
    simp only [Eff.gb] at hm'
    split
    · rename_i he; rw [if_pos he] at hm'; exact hm'
    · rename_i he; rw [if_neg he] at hm'; exact hm'
  · intro q' s hq'
    rw [ap_own] at hq'
    rw [St.put_own]
    simp only [Eff.go, List.mem_cons] at hq'
    split
    · rename_i he; rw [if_pos (.inl he)] at hq'; exact hq'
    · rename_i he
      show (s2.store (.l r) (setIf cs m n c) m.toNat 1).own q' = _
      rw [St.store_own]
      split
      · rename_i h3; rw [if_pos (.inr (mem_cellPls.2 h3))] at hq'; exact hq'
      · rename_i h3; rw [if_neg (by rintro (h | h); exact he h; exact h3 (mem_cellPls.1 h))] at hq'; exact hq'
end Go.Abs
/- Slices of numbers that are written element by element. -/
set_option linter.unusedVariables false
set_option linter.unusedSimpArgs false
namespace Go.Abs
variable {Z : Pg}
def arr (k : IntKind) (g : Nat → Int) (n : Nat) : List C := (List.range n).map fun m => C.i k (g m)
def arrR (k : IntKind) (g : Nat → Int) (n : Nat) : List (List C) := (List.range n).map fun m => [C.i k (g m)]
def upd (g : Nat → Int) (j : Nat) (v : Int) : Nat → Int := fun m => if m = j then v else g m
theorem arr_len (k : IntKind) (g : Nat → Int) (n : Nat) : (arr k g n).length = n := by simp [arr]
theorem arrR_len (k : IntKind) (g : Nat → Int) (n : Nat) : (arrR k g n).length = n := by simp [arrR]
theorem arr_get {k : IntKind} {g : Nat → Int} {n j : Nat} (h : j < n) : (arr k g n)[j]? = some (.i k (g j)) := by
  simp [arr, List.getElem?_range h]
theorem arrR_at {k : IntKind} {g : Nat → Int} {n j : Nat} (h : j < n) : (arrR k g n)[j]? = some [.i k (g j)] := by
  simp [arrR, List.getElem?_range h]
theorem arrR_take {k : IntKind} {g : Nat → Int} {n j : Nat} (h : j ≤ n) : (arrR k g n).take j = arrR k g j := by
  simp only [arrR]
  rw [← List.map_take, List.take_range, Nat.min_eq_left h]
theorem arr_at {k : IntKind} {g : Nat → Int} {n j : Nat} (h : j < n) : (arr k g n)[0 + j * 1]? = some (.i k (g j)) := by
  rw [Nat.zero_add, Nat.mul_one]; exact arr_get h
theorem arr_flat (k : IntKind) (g : Nat → Int) (n : Nat) : arr k g n = (arrR k g n).flatten := by
  simp only [arr, arrR]
  induction List.range n with
  | nil => rfl
  | cons a l ih => simp [ih]
theorem arr_ext {k : IntKind} {g g' : Nat → Int} {n : Nat} (h : ∀ m, m < n → g m = g' m) : arr k g n = arr k g' n := by
  apply List.map_congr_left
  intro m hm
  rw [h m (by simpa using hm)]
theorem arrR_ext {k : IntKind} {g g' : Nat → Int} {n : Nat} (h : ∀ m, m < n → g m = g' m) : arrR k g n = arrR k g' n := by
  apply List.map_congr_left
  intro m hm
  rw [h m (by simpa using hm)]
theorem arr_rep (k : IntKind) (n : Nat) : (List.replicate n [C.i k 0]).flatten = arr k (fun _ => 0) n := by
  apply List.ext_getElem?
  intro j
  have : (List.replicate n [C.i k 0]).flatten = List.replicate n (C.i k 0) := by
    induction n with
    | zero => rfl
    | succ n ih => rw [List.replicate_succ, List.replicate_succ, List.flatten_cons, ih]; rfl
  rw [this]
  by_cases h : j < n
  · rw [arr_get h, List.getElem?_replicate, if_pos h]
  · rw [List.getElem?_eq_none (by simp; omega), List.getElem?_eq_none (by rw [arr_len]; omega)]
theorem setAt_arr {k : IntKind} {g : Nat → Int} {n j : Nat} {v : Int} (h : j < n) : setAt (arr k g n) (0 + j * 1) [.i k v] = arr k (upd g j v) n := by
  apply List.ext_getElem?
  intro i
  rw [setAt_get _ _ _ _ (by rw [arr_len]; simp; omega)]
  simp only [Nat.zero_add, Nat.mul_one, List.length_singleton]
  by_cases hi : i < n
  · rw [arr_get hi, arr_get hi]
    split
    · rename_i h1
      have : i = j := by omega
      subst this
      simp [upd]
    · rename_i h1
      have : ¬ i = j := by omega
      simp [upd, this]
  · rw [if_neg (by omega), List.getElem?_eq_none (by rw [arr_len]; omega), List.getElem?_eq_none (by rw [arr_len]; omega)]
theorem setIf_arr {g : Nat → Int} {n : Nat} {m N c : Int} (hm : 0 ≤ m) (hN : (n : Int) = N + 1) : setIf (arr .u64 g n) m N c = arr .u64 (fun j => if (j : Int) = m then c else g j) n := by
  unfold setIf
  split
  · rename_i h
    have h1 := setAt_arr (k := .u64) (g := g) (n := n) (j := m.toNat) (v := c) (by omega)
    rw [Nat.zero_add, Nat.mul_one] at h1
    rw [h1]
    apply arr_ext
    intro j hj
    unfold upd
    by_cases e : (j : Int) = m
    · rw [if_pos (by omega), if_pos e]
    · rw [if_neg (by omega), if_neg e]
  · rename_i h
    apply arr_ext
    intro j hj
    rw [if_neg (by omega)]
section
variable {N : Nat} {ops : Array Oper} {rest : List Oper} {K : St → Prop} {st : St} {o : Oper} {d : Nat} {ty : TypeId}
theorem does_makeArr {t e by' : Nat} {x y : Operand} {ti te : TyI} {n : Nat} {m : Int} {k ke : IntKind} (hx : lk Z.T st ty x = some (true, .v (.c (.i k m)))) (hy : lk Z.T st ty y = some (true, .v (.c (.i k m))))
    (ht : tyAt Z.T t = some ti) (hel : ti.el = some (e, 1, by')) (hte : tyAt Z.T e = some te) (hz : te.z = [.i ke 0]) (hN : Nat.ble (d + 1) N = true) (hfr : st.fresh (.l d) = true) (hm : m = (n : Int)) (hbig : n * by' ≤ 140737488355328) (hmax : n ≤ 9223372036854775807) :
    Does Z N st (some d) (.makeSlice t x y) ty ((st.addBox (.l d) (arr ke (fun _ => 0) n)).put d (true, .v (.ms (.l d) 1 0 n))) := by
  have := does_makeMs (n := n) hx hy ht hel hte hN hfr hm hbig hmax
  rw [hz, arr_rep] at this
  exact this
theorem does_storeArr {t : TypeId} {x v : Operand} {n : Nm} {j len : Nat} {k : IntKind} {g : Nat → Int} {c : Int} {ti : TyI} (hx : lk Z.T st t x = some (true, .v (.ptr n (0 + j * 1)))) (hv : lk Z.T st t v = some (true, .v (.c (.i k c))))
    (hb : st.box n = some (arr k g len)) (ht : tyAt Z.T t = some ti) (hn : ti.n = 1) (hj : j < len) (hnb : (!n.isBd || !Nat.beq (0 + j * 1) 0) = true) :
    Does Z N st none (.store t x v) ty (st.store n (arr k (upd g j c) len) (0 + j * 1) 1) := by
  have := does_store (Z := Z) (N := N) (ty := ty) hx hv (ds := [.i k c]) rfl hb ht (by rw [hn]; rfl) (Nat.ble_eq_true_of_le (by rw [arr_len]; simp; omega)) hnb
  rw [setAt_arr hj] at this
  exact this
end
section
variable {N : Nat} {ops : Array Oper} {rest : List Oper} {st : St} {o : Oper} {s0 : St} {B : List Nat} {q : Nat} {acc : List Lnk} {Q : St → Prop}
theorem dr_storeArr {t : TypeId} {x v : Operand} {n : Nm} {j len : Nat} {k : IntKind} {g : Nat → Int} {c : Int} {ti : TyI} (hk : ops[q]? = some o) (ho : o.op = .store t x v) (hx0 : lk Z.T st t x = some (true, .v (.ptr n (0 + j * 1)))) (hg : gateOf ops (rs (foot ops o [n] []) st) o = some true) (hd : o.dst = none)
    (hx : lk Z.T (rs (foot ops o [n] []) st) t x = some (true, .v (.ptr n (0 + j * 1)))) (hv : lk Z.T (rs (foot ops o [n] []) st) t v = some (true, .v (.c (.i k c))))
    (hb : (rs (foot ops o [n] []) st).box n = some (arr k g len)) (ht : tyAt Z.T t = some ti) (hn : ti.n = 1) (hj : j < len) (hnb : (!n.isBd || !Nat.beq (0 + j * 1) 0) = true)
    (hr : Draw Z N s0 ops B (q + 1) rest (acc ++ [(q, { b := some (n, arr k (upd g j c) len), drop := cellPls n (0 + j * 1) 1 }, foot ops o [n] [])]) (ap { b := some (n, arr k (upd g j c) len), drop := cellPls n (0 + j * 1) 1 } st) Q) :
    Draw Z N s0 ops B q (o :: rest) acc st Q := by
  refine dr_store hk ho hx0 hg hd hx hv (ds := [.i k c]) rfl hb ht (by rw [hn]; rfl) (Nat.ble_eq_true_of_le (by rw [arr_len]; simp; omega)) ?_ hnb
  rw [setAt_arr hj]
  exact hr
end
theorem awp_freezeArr {N : Nat} {c : Code} {Q : Exit → St → Prop} {st : St} (k m : Nat) {L : Nat} {kd : IntKind} {g : Nat → Int} (hs : st.get k = some (true, .v (.ms (.l m) 1 0 L)))
    (hb : st.box (.l m) = some (arr kd g L)) (hm : L ≤ 9223372036854775807) (hfo : st.freshO (.l m, false) = true)
    (h : AWP Z N c Q (st.frz k m 1 (arrR kd g L))) : AWP Z N c Q st :=
  awp_freeze k m (arrR kd g L) hs (by rw [hb, arr_flat]) (arrR_len _ _ _) hm (fun i row hi => by
    simp only [arrR, List.getElem?_map] at hi
    cases hr : (List.range L)[i]? with
    | none => rw [hr] at hi; simp at hi
    | some x => rw [hr] at hi; simp at hi; subst hi; rfl) hfo h
theorem al_freezeArr {N : Nat} {ops : Array Oper} {rest : List Oper} {K : St → Prop} {st : St} (k m : Nat) {L : Nat} {kd : IntKind} {g : Nat → Int} (hs : st.get k = some (true, .v (.ms (.l m) 1 0 L)))
    (hb : st.box (.l m) = some (arr kd g L)) (hm : L ≤ 9223372036854775807) (hfo : st.freshO (.l m, false) = true)
    (h : AL Z N ops rest K (st.frz k m 1 (arrR kd g L))) : AL Z N ops rest K st :=
  al_freeze k m (arrR kd g L) hs (by rw [hb, arr_flat]) (arrR_len _ _ _) hm (fun i row hi => by
    simp only [arrR, List.getElem?_map] at hi
    cases hr : (List.range L)[i]? with
    | none => rw [hr] at hi; simp at hi
    | some x => rw [hr] at hi; simp at hi; subst hi; rfl) hfo h
theorem al_rename {N : Nat} {ops : Array Oper} {rest : List Oper} {K : St → Prop} {st : St} (k m m' : Nat) {sz L : Nat} {cs : List C} (hs : st.get k = some (true, .v (.ms (.l m) sz 0 L))) (hb : st.box (.l m) = some cs)
    (hfr : st.freshO (.l m', true) = true) (hfo : st.freshO (.l m, false) = true) (h : AL Z N ops rest K (st.ren k m m' sz L cs)) : AL Z N ops rest K st :=
  fun E G a w hr hE => h E _ a w (hr.rename hs hb (St.freshO_ok hfr) (St.freshO_ok hfo)) hE
theorem al_closArr {N : Nat} {ops : Array Oper} {rest : List Oper} {K : St → Prop} {st : St} {o : Oper} {d : Nat} {fo x y : Operand} {ts : Array TypeId} {f : FuncId} {a b r : Nat} (q : Nat) {m n c : Int} {len : Nat} {g : Nat → Int} {u : Value} (S : SetFn Z f)
    (ho : o.op = .call { callee := .value fo, args := #[x, y], argTypes := ts }) (hg : gateOf ops st o = some true) (hd : o.dst = some d) (hN : Nat.ble (d + 1) N = true)
    (hf : lk Z.T st 0 fo = some (true, .fn f [.ptr (.l a) 0, .ptr (.l b) 0])) (hxy : lkAll Z.T st ts.toList [x, y] = some (true, [.v (.c (.i .i64 m)), .v (.c (.i .u64 c))]))
    (hba : st.box (.l a) = some [.i .i64 n]) (hbb : st.box (.l b) = some [.o u]) (hq : st.get q = some (true, .v (.msv (.l r) 1 0 len u))) (hbr : st.box (.l r) = some (arr .u64 g len)) (hn : (len : Int) = n + 1) (hm : 0 ≤ m) (hmx : (len : Int) < 9223372036854775807)
    (h : AL Z N ops rest K ((st.store (.l r) (arr .u64 (fun j => if (j : Int) = m then c else g j) len) m.toNat 1).put d (true, .tup []))) : AL Z N ops (o :: rest) K st :=
  al_clos q S ho hg hd hN hf hxy hba hbb hq hbr (arr_len _ _ _) hn hm hmx (by rw [setIf_arr hm hn]; exact h)
theorem dr_closArr {N : Nat} {ops : Array Oper} {rest : List Oper} {st : St} {o : Oper} {s0 : St} {B : List Nat} {k : Nat} {acc : List Lnk} {Q : St → Prop} {d : Nat} {fo x y : Operand} {ts : Array TypeId} {f : FuncId} (a b r q : Nat) {m n c : Int} {len : Nat} {g : Nat → Int} {u : Value} {R : Foot} (S : SetFn Z f)
    (hR : R = { foot ops o [.l a, .l b, .l r] [] with rt := q :: slotsOf ops o }) (hk : ops[k]? = some o)
    (ho : o.op = .call { callee := .value fo, args := #[x, y], argTypes := ts }) (hg : gateOf ops (rs R st) o = some true) (hd : o.dst = some d) (hN : Nat.ble (d + 1) N = true)
    (hf : lk Z.T (rs R st) 0 fo = some (true, .fn f [.ptr (.l a) 0, .ptr (.l b) 0])) (hxy : lkAll Z.T (rs R st) ts.toList [x, y] = some (true, [.v (.c (.i .i64 m)), .v (.c (.i .u64 c))]))
    (hba : (rs R st).box (.l a) = some [.i .i64 n]) (hbb : (rs R st).box (.l b) = some [.o u]) (hq : (rs R st).get q = some (true, .v (.msv (.l r) 1 0 len u))) (hbr : (rs R st).box (.l r) = some (arr .u64 g len)) (hn : (len : Int) = n + 1) (hm : 0 ≤ m) (hmx : (len : Int) < 9223372036854775807)
    (hr : Draw Z N s0 ops B (k + 1) rest (acc ++ [(k, { d := some (d, true, .tup []), b := some (.l r, arr .u64 (fun j => if (j : Int) = m then c else g j) len), drop := .t d :: cellPls (.l r) m.toNat 1 }, R)]) (ap { d := some (d, true, .tup []), b := some (.l r, arr .u64 (fun j => if (j : Int) = m then c else g j) len), drop := .t d :: cellPls (.l r) m.toNat 1 } st) Q) :
    Draw Z N s0 ops B k (o :: rest) acc st Q :=
  dr_clos a b r q S hR hk ho hg hd hN hf hxy hba hbb hq hbr (arr_len _ _ _) hn hm hmx (by rw [setIf_arr hm hn]; exact hr)
end Go.Abs
/- Numbers of strings: what both sides compute (plain). -/
set_option linter.unusedVariables false
set_option linter.unusedSimpArgs false
namespace Go.Proofs.Ytgjclggjkhapfaa
open Go Go.Abs
def M1 : Nat := 4611686018427387905
def sat (x : Nat) : Nat := min x M1
theorem sat_le (x : Nat) : sat x ≤ M1 := Nat.min_le_right _ _
theorem sat_add (a b : Nat) : sat (sat a + sat b) = sat (a + b) := by unfold sat; omega
theorem sat_of {a : Nat} (h : a ≤ M1) : sat a = a := by unfold sat; omega
theorem sat_zero {a : Nat} : sat a = 0 ↔ a = 0 := by unfold sat M1; omega
theorem sat_top {x : Nat} (h : M1 ≤ x) : sat x = M1 := by unfold sat; omega
theorem sat_mul (a b : Nat) : sat (sat a * sat b) = sat (a * b) := by
  by_cases ha : a = 0
  · subst ha; simp [sat]
  by_cases hb : b = 0
  · subst hb; simp [sat]
  by_cases h1 : a ≤ M1
  · by_cases h2 : b ≤ M1
    · rw [sat_of h1, sat_of h2]
    · have e : sat b = M1 := by unfold sat; omega
      rw [e, sat_of h1]
      have q1 : M1 ≤ a * M1 := Nat.le_mul_of_pos_left _ (by omega)
      have q2 : M1 ≤ a * b := Nat.le_trans (by omega : M1 ≤ b) (Nat.le_mul_of_pos_left _ (by omega))
      rw [sat_top q1, sat_top q2]
  · have e : sat a = M1 := by unfold sat; omega
    have hs : 1 ≤ sat b := by
      have : sat b ≠ 0 := fun e => hb (sat_zero.1 e)
      omega
    rw [e]
    have q1 : M1 ≤ M1 * sat b := Nat.le_mul_of_pos_right _ (by omega)
    have q2 : M1 ≤ a * b := Nat.le_trans (by omega : M1 ≤ a) (Nat.le_mul_of_pos_right _ (by omega))
    rw [sat_top q1, sat_top q2]
def sumTo (g : Nat → Nat) : Nat → Nat
  | 0 => 0
  | n + 1 => sumTo g n + g n
theorem sumTo_ext {g g' : Nat → Nat} : ∀ {n : Nat}, (∀ m, m < n → g m = g' m) → sumTo g n = sumTo g' n
  | 0, _ => rfl
  | n + 1, h => by rw [sumTo, sumTo, sumTo_ext fun m hm => h m (by omega), h n (by omega)]
theorem sumTo_zero {g : Nat → Nat} : ∀ {n : Nat}, (∀ m, m < n → g m = 0) → sumTo g n = 0
  | 0, _ => rfl
  | n + 1, h => by rw [sumTo, sumTo_zero fun m hm => h m (by omega), h n (by omega)]
theorem sumTo_first (g : Nat → Nat) : ∀ n : Nat, sumTo g (n + 1) = g 0 + sumTo (fun a => g (a + 1)) n
  | 0 => by simp [sumTo]
  | n + 1 => by rw [sumTo, sumTo_first g n, sumTo, Nat.add_assoc]
theorem sumTo_rev : ∀ (g : Nat → Nat) (n : Nat), sumTo g (n + 1) = sumTo (fun a => g (n - a)) (n + 1)
  | g, 0 => rfl
  | g, n + 1 => by
    rw [sumTo_first (fun a => g (n + 1 - a)), sumTo, sumTo_rev g n, Nat.add_comm]
    congr 1
    apply sumTo_ext
    intro m hm
    congr 1; omega
/-- The strings of two parts with m bytes. -/
def conv (x c : Nat → Nat) (m : Nat) : Nat := sumTo (fun a => x a * c (m - a)) (m + 1)
theorem conv_comm (x c : Nat → Nat) (m : Nat) : conv x c m = conv c x m := by
  unfold conv
  rw [sumTo_rev]
  apply sumTo_ext
  intro a ha
  rw [Nat.mul_comm]; congr 2; omega
/-- The sum as far as a loop has come. -/
def pt (x c : Nat → Nat) (a m : Nat) : Nat := sumTo (fun i => if i ≤ m then x i * c (m - i) else 0) a
def part (x c : Nat → Nat) (a b m : Nat) : Nat := pt x c a m + if a ≤ m ∧ m < a + b then x a * c (m - a) else 0
theorem pt_succ (x c : Nat → Nat) (a m : Nat) : pt x c (a + 1) m = pt x c a m + if a ≤ m then x a * c (m - a) else 0 := rfl
theorem pt_conv {x c : Nat → Nat} {a m : Nat} (h : m < a) : pt x c a m = conv x c m := by
  have key : ∀ k, pt x c (m + 1 + k) m = conv x c m := by
    intro k
    induction k with
    | zero =>
      apply sumTo_ext
      intro i hi
      rw [if_pos (by omega)]
    | succ k ih => rw [← Nat.add_assoc, pt_succ, ih, if_neg (by omega), Nat.add_zero]
  have := key (a - (m + 1))
  rwa [show m + 1 + (a - (m + 1)) = a by omega] at this
theorem part_zero (x c : Nat → Nat) (a m : Nat) : part x c a 0 m = pt x c a m := by
  unfold part; rw [if_neg (by omega), Nat.add_zero]
theorem part_full {x c : Nat → Nat} {a b m : Nat} (h : m < a + b) : part x c a b m = pt x c (a + 1) m := by
  unfold part; rw [pt_succ]
  by_cases h1 : a ≤ m
  · rw [if_pos ⟨h1, h⟩, if_pos h1]
  · rw [if_neg (by omega), if_neg h1]
theorem part_step (x c : Nat → Nat) (a b m : Nat) : part x c a (b + 1) m = if m = a + b then pt x c a m + x a * c b else part x c a b m := by
  unfold part
  by_cases h : m = a + b
  · subst h
    rw [if_pos rfl, if_pos (by omega)]
    congr 3; omega
  · rw [if_neg h]
    by_cases h1 : a ≤ m ∧ m < a + b
    · rw [if_pos (by omega), if_pos h1]
    · rw [if_neg (by omega), if_neg h1]
theorem part_at (x c : Nat → Nat) (a b : Nat) : part x c a b (a + b) = pt x c a (a + b) := by
  unfold part; rw [if_neg (by omega), Nat.add_zero]
/-- The strings of a field with n bytes; 'rec': of a nested format. -/
def cntF (rec : Int → Nat → Nat) (f : Fd) (n : Nat) : Nat :=
  if f.kind = 1 then (if n = f.bytes.length then 1 else 0) else if f.kind = 2 then (if (n : Int) = f.n then 256 ^ n else 0)
  else if f.kind = 3 then (if 1 ≤ n ∧ (n : Int) - 1 ≤ f.n then 256 ^ (n - 1) else 0) else if f.kind = 4 then (if n = 1 then (f.high - f.low + 1).toNat else 0)
  else if f.kind = 5 then (if 1 ≤ n then rec f.n (n - 1) else 0) else if f.low ≤ (n : Int) ∧ (n : Int) ≤ f.high then 256 ^ n else 0
def cntL (rec : Int → Nat → Nat) : List Fd → (Nat → Nat) → Nat → Nat
  | [], x => x
  | f :: fs, x => cntL rec fs (conv x (cntF rec f))
def one0 (m : Nat) : Nat := if m = 0 then 1 else 0
def cnt0 (t : List Fm) (i : Int) : Nat → Nat := cntL (fun _ _ => 0) (t.getD i.toNat default).fields one0
def cntT (t : List Fm) (i : Int) : Nat → Nat := cntL (cnt0 t) (t.getD i.toNat default).fields one0
def cntE (t : List Fm) (i n : Int) : Int × Int := if errE t i ≠ 0 then (0, errE t i) else if n < 0 ∨ 2000 < n then (0, 7) else if M1 ≤ cntT t i n.toNat then (0, 3) else ((cntT t i n.toNat : Nat), 0)
/-- There are none beyond the bounds. -/
theorem conv_zero {x c : Nat → Nat} {A B : Int} (hx : ∀ m : Nat, A < m → x m = 0) (hc : ∀ m : Nat, B < m → c m = 0) (m : Nat) (h : A + B < m) : conv x c m = 0 := by
  apply sumTo_zero
  intro a ha
  by_cases h1 : A < a
  · rw [hx a h1, Nat.zero_mul]
  · rw [hc (m - a) (by omega), Nat.mul_zero]
theorem cntF_zero {rec : Int → Nat → Nat} {rb : Int → Int × Int} {f : Fd} (hf : FdOk f) (hr : f.kind = 5 → ∀ m : Nat, (rb f.n).2 < m → rec f.n m = 0) (m : Nat) (h : (bndF rb f).2 < m) : cntF rec f m = 0 := by
  obtain ⟨hk, h1, h2, h3, h4, h5, h6⟩ := hf
  obtain ⟨c1, c2, c3, c4, c5, c6⟩ := bndF_cases rb f
  obtain k | k | k | k | k | k : f.kind = 1 ∨ f.kind = 2 ∨ f.kind = 3 ∨ f.kind = 4 ∨ f.kind = 5 ∨ f.kind = 6 := by omega
  · have := c1 k; unfold cntF; rw [if_pos k, if_neg (by omega)]
  · have := c2 k; unfold cntF; rw [if_neg (by omega), if_pos k, if_neg (by omega)]
  · have := c3 k; unfold cntF; rw [if_neg (by omega), if_neg (by omega), if_pos k, if_neg (by omega)]
  · have := c4 k; unfold cntF; rw [if_neg (by omega), if_neg (by omega), if_neg (by omega), if_pos k, if_neg (by omega)]
  · have := c5 k; unfold cntF; rw [if_neg (by omega), if_neg (by omega), if_neg (by omega), if_neg (by omega), if_pos k]; split; exact hr k _ (by omega); rfl
  · have := c6 k; unfold cntF; rw [if_neg (by omega), if_neg (by omega), if_neg (by omega), if_neg (by omega), if_neg (by omega), if_neg (by omega)]
theorem cntL_zero {rec : Int → Nat → Nat} {rb : Int → Int × Int} : ∀ {fs : List Fd} {x : Nat → Nat} {A : Int}, (∀ k, k < fs.length → ∀ m : Nat, (bndF rb (fs.getD k default)).2 < m → cntF rec (fs.getD k default) m = 0) → (∀ m : Nat, A < m → x m = 0) →
    ∀ m : Nat, A + (bndL rb fs).2 < m → cntL rec fs x m = 0
  | [], x, A, _, hx, m, h => by rw [cntL]; exact hx m (by simpa [bndL] using h)
  | f :: fs, x, A, hf, hx, m, h => by
    rw [cntL]
    have h0 : ∀ m : Nat, (bndF rb f).2 < m → cntF rec f m = 0 := fun m hm => by have := hf 0 (by simp) m (by simpa using hm); simpa using this
    refine cntL_zero (A := A + (bndF rb f).2) (fun k hk m hm => by have := hf (k + 1) (by simpa using hk) m (by simpa using hm); simpa using this) (conv_zero hx h0) m ?_
    rw [bndL] at h
    dsimp only at h; omega
theorem one0_zero (m : Nat) (h : (0 : Int) < m) : one0 m = 0 := by unfold one0; rw [if_neg (by omega)]
theorem cnt0_zero {t : List Fm} {i : Int} (hp : Plain1 (t.getD i.toNat default).fields) (m : Nat) (h : (bnd0 t i).2 < m) : cnt0 t i m = 0 :=
  cntL_zero (rb := fun _ => (0, 0)) (fun k hk m hm => cntF_zero (hp.ok k hk).1 (fun h5 => absurd h5 (hp.ok k hk).2.1) m hm) one0_zero m (by unfold bnd0 fmAt at h; omega)
theorem bnd1_small {f : Fd} (hf : FdOk f) (h6 : f.kind ≠ 6) : 0 ≤ (bnd1 f).1 ∧ (bnd1 f).1 ≤ (bnd1 f).2 ∧ (bnd1 f).2 ≤ 16 := by
  obtain ⟨h1, h2, h3, h4, h5, h7, _⟩ := hf
  unfold bnd1
  grind
theorem bnd0_small {t : List Fm} {i : Int} (hp : Plain1 (t.getD i.toNat default).fields) : (bnd0 t i).2 ≤ 96 := by
  have := bndL_le (rec := fun _ => (0, 0)) (B := 16) (l := (t.getD i.toNat default).fields) fun j hj => by
    obtain ⟨h1, h2, h3⟩ := hp.ok j hj
    unfold bndF
    rw [if_neg h2]
    exact bnd1_small h1 h3
  have hl := hp.len
  unfold bnd0 fmAt
  omega
/-- A field more. -/
theorem cntL_drop (rec : Int → Nat → Nat) {fs : List Fd} {k : Nat} (h : k < fs.length) (x : Nat → Nat) : cntL rec (fs.drop k) x = cntL rec (fs.drop (k + 1)) (conv x (cntF rec (fs.getD k default))) := by
  rw [drop_getD h, cntL]
theorem pow_sat (n : Nat) : sat (sat (256 ^ n) * 256) = sat (256 ^ (n + 1)) := by
  have := sat_mul (256 ^ n) 256
  rw [show sat 256 = 256 from rfl] at this
  rw [this, Nat.pow_succ]
theorem pow_big {n : Nat} (h : 8 ≤ n) : sat (256 ^ n) = sat (256 ^ 8) := by
  have h1 : 256 ^ 8 ≤ 256 ^ n := Nat.pow_le_pow_right (by decide) h
  have h2 : M1 ≤ 256 ^ 8 := by decide
  unfold sat; omega
end Go.Proofs.Ytgjclggjkhapfaa
/- bits.Mul64, and the closure that sets a count: step by step. -/
set_option linter.unusedVariables false
set_option linter.unusedSimpArgs false
namespace Go.Proofs.Ytgjclggjkhapfaa
open Go Go.Proofs Go.RowKit Go.Lib
theorem maskN (a : Nat) (ha : a < 18446744073709551616) : bits .and .u64 (a : Int) 4294967295 = ((a % 4294967296 : Nat) : Int) := by
  have h := bits_and_u64_nat a 4294967295 ha (by omega)
  have e : a &&& 4294967295 = a % 4294967296 := Nat.and_two_pow_sub_one_eq_mod a 32
  rw [e] at h
  exact h
theorem divN (a : Nat) : (a : Int) / 4294967296 = ((a / 4294967296 : Nat) : Int) := by omega
theorem mulN (a b : Nat) : (a : Int) * (b : Int) = ((a * b : Nat) : Int) := (Int.natCast_mul a b).symm
theorem addN (a b : Nat) : (a : Int) + (b : Int) = ((a + b : Nat) : Int) := (Int.natCast_add a b).symm
theorem wrapN (a : Nat) (ha : a < 18446744073709551616) : IntKind.u64.wrap (a : Int) = (a : Int) := by rw [IntKind.wrap_u64]; omega
theorem wrapM (a : Nat) : IntKind.u64.wrap (a : Int) = ((a % 18446744073709551616 : Nat) : Int) := by rw [IntKind.wrap_u64]; omega
set_option maxHeartbeats 1000000 in
set_option maxRecDepth 100000 in
theorem mul64_walk (x y : Nat) (hx : x < 18446744073709551616) (hy : y < 18446744073709551616) (w : World) :
    Calls Try.prog 96 #[.int .u64 x, .int .u64 y] w fun e w' => e = .returned (.tuple #[.int .u64 ((x * y / 18446744073709551616 : Nat) : Int), .int .u64 ((x * y % 18446744073709551616 : Nat) : Int)]) ∧ w' = w := by
  obtain ⟨bd, bt, bw, hhi⟩ := Lib.mul64_hi x y hx hy
  have ba := Lib.half_mul_le (a := x / 4294967296) (b := y / 4294967296) (by omega) (by omega)
  have bb := Lib.half_mul_le (a := x / 4294967296) (b := y % 4294967296) (by omega) (by omega)
  have bc := Lib.half_mul_le (a := x % 4294967296) (b := y / 4294967296) (by omega) (by omega)
  have ba' : x / 4294967296 * (y / 4294967296) < 18446744073709551616 := by omega
  have bb' : x / 4294967296 * (y % 4294967296) < 18446744073709551616 := by omega
  have bc' : x % 4294967296 * (y / 4294967296) < 18446744073709551616 := by omega
  have bh1 : x / 4294967296 * (y / 4294967296) + (x / 4294967296 * (y % 4294967296) + x % 4294967296 * (y % 4294967296) / 4294967296) / 4294967296 < 18446744073709551616 := by omega
  have bh : x / 4294967296 * (y / 4294967296) + (x / 4294967296 * (y % 4294967296) + x % 4294967296 * (y % 4294967296) / 4294967296) / 4294967296 + ((x / 4294967296 * (y % 4294967296) + x % 4294967296 * (y % 4294967296) / 4294967296) % 4294967296 + x % 4294967296 * (y / 4294967296)) / 4294967296 < 18446744073709551616 := by omega
  go_enter Try.func96, Try.ntmps96
  go_wp2
  simp only [maskN x hx, maskN y hy, divN, mulN, addN, wrapN _ bd, wrapN _ bb', wrapN _ bt, maskN _ bt, wrapN _ bc', wrapN _ bw, wrapN _ ba', wrapN _ bh1, wrapN _ bh, wrapM (x * y)]
  rw [hhi]
  go_ret2
  exact ⟨rfl, rfl⟩
set_option maxHeartbeats 1000000 in
set_option maxRecDepth 100000 in
theorem set_walk (w : World) (pb po qb qo : Nat) (m n c : Int) (blk off len cap : Nat) (h1 : w.cell? ⟨pb, po, none⟩ = some (.int .i64 n)) (h2 : w.cell? ⟨qb, qo, none⟩ = some (.slice (some ⟨blk, off, none⟩) len cap)) (hm : 0 ≤ m) (hn : (len : Int) = n + 1) (hmx : (len : Int) < 9223372036854775807)
    (hc : ∀ j, j < len → (w.cell? ⟨blk, off + j, none⟩).isSome = true) (hf : ∀ j, j < len → w.frozen? ⟨blk, off + j, none⟩ = false) :
    Calls Try.prog 94 #[.int .i64 m, .int .u64 c, .pointer (some ⟨pb, po, none⟩), .pointer (some ⟨qb, qo, none⟩)] w fun e w' => e = .returned (.tuple #[]) ∧ w' = if m ≤ n then w.setCell ⟨blk, off + m.toNat, none⟩ (.int .u64 c) else w := by
  by_cases hle : m ≤ n
  · have hlt : m.toNat < len := by omega
    have hc' := hc m.toNat hlt
    have hf' := hf m.toNat hlt
    have hml : m < len := by omega
    obtain ⟨v, hv⟩ := Option.isSome_iff_exists.1 hc'
    clear hc hf hn hmx hc'
    go_enter Try.func94, Try.ntmps94
    go_wp2
    all_goals first | (exfalso; omega) | (go_end0; first | exact ⟨rfl, rfl⟩ | exact ⟨rfl, by rw [if_pos hle]⟩)
  · clear hc hf hn hmx
    go_enter Try.func94, Try.ntmps94
    go_wp2
    all_goals first | (exfalso; omega) | (go_end0; first | exact ⟨rfl, rfl⟩ | exact ⟨rfl, by rw [if_neg hle]⟩)
theorem setFn : Go.Abs.SetFn Go.Proofs.Ytgjclggjkhapfaa.sys 94 where
  en := ⟨_, Try.func94, rfl, rfl⟩
  run := set_walk
end Go.Proofs.Ytgjclggjkhapfaa
/- Contracts: numbers of strings, as codec counts. -/
set_option linter.unusedVariables false
set_option linter.unusedSimpArgs false
namespace Go.Proofs.Ytgjclggjkhapfaa
open Go Go.Abs
abbrev xq (n : Int) : X := .v (.c (.i .u64 n))
abbrev satI (g : Nat → Nat) : Nat → Int := fun m => (sat (g m) : Nat)
abbrev xua (g : Nat → Int) (n : Nat) : X := .v (.c (.sl 1 (arrR .u64 g n)))
theorem xq_eq {a b : Int} (h : a = b) : xq a = xq b := by rw [h]
theorem M1_val : M1 = 4611686018427387905 := rfl
theorem le256 : 256 ≤ M1 := by rw [M1_val]; omega
theorem satI0 : ((sat 0 : Nat) : Int) = 0 := by unfold sat; rw [M1_val]; omega
theorem satI1 : ((sat 1 : Nat) : Int) = 1 := by unfold sat; rw [M1_val]; omega
theorem satP0 : ((sat (256 ^ 0) : Nat) : Int) = 1 := satI1
theorem mul64_spec (x y : Nat) (hx : x < 18446744073709551616) (hy : y < 18446744073709551616) (a b : Int) (ha : a = x) (hb : b = y) :
    Ctr sys 96 [xq a, xq b] [] (.tup [.c (.i .u64 ((x * y / 18446744073709551616 : Nat) : Int)), .c (.i .u64 ((x * y % 18446744073709551616 : Nat) : Int))]) none [] := by
  subst ha; subst hb
  refine ctr_pure [.int .u64 x, .int .u64 y] ⟨_, Try.func96, by kernel_rfl, by kernel_rfl⟩ (fun w G vs h => ?_) (fun w => mul64_walk x y hx hy w) (fun w G => ⟨_, rfl, CRep.i _ _, CRep.i _ _, trivial⟩)
  match vs, h with
  | [u, v], ⟨h1, h2, _⟩ => rw [XRep.int h1, XRep.int h2]
theorem add_spec (a b : Nat) (ha : a ≤ M1) (hb : b ≤ M1) (ai bi : Int) (hai : ai = a) (hbi : bi = b) : Ctr sys 67 [xq ai, xq bi] [] (xq (sat (a + b) : Nat)) none [] := by
  subst hai; subst hbi
  have hM := M1_val
  refine spec_intro Try.func67 rfl rfl rfl rfl rfl rfl ?_
  refine awp_seq (awp_region ?_)
  refine al_pure rfl rfl rfl (pure_assign rfl gU) ?_
  refine al_nil ?_
  refine awp_seq (awp_region ?_)
  refine al_pure rfl rfl rfl (pure_move rfl gU) ?_
  refine al_pure rfl rfl rfl (pure_move rfl gU) ?_
  refine al_pure rfl rfl rfl (pure_arith rfl rfl gU gU rfl (IntWalk.u64_in _ (by omega))) ?_
  refine al_pure rfl rfl rfl (pure_min rfl rfl gU gU) ?_
  refine al_pure rfl rfl rfl (pure_assign rfl gU) ?_
  refine al_nil ?_
  refine awp_ret ?_
  repeat (first | refine tR ?_ | refine bR ?_)
  refine ret_ok rfl ?_ trivial
  exact xq_eq (by unfold sat; omega)
theorem mulv_spec (a b : Nat) (ha : a ≤ M1) (hb : b ≤ M1) (ai bi : Int) (hai : ai = a) (hbi : bi = b) : Ctr sys 68 [xq ai, xq bi] [] (xq (sat (a * b) : Nat)) none [] := by
  subst hai; subst hbi
  have hM := M1_val
  refine spec_intro Try.func68 rfl rfl rfl rfl rfl rfl ?_
  refine awp_seq (awp_region ?_)
  refine al_pure rfl rfl rfl (pure_assign rfl gU) ?_
  refine al_nil ?_
  refine awp_seq (awp_region ?_)
  refine al_pure rfl rfl rfl (pure_move rfl gU) ?_
  refine al_pure rfl rfl rfl (pure_move rfl gU) ?_
  refine al_call rfl rfl rfl rfl rfl rfl gU gU (mul64_spec a b (by omega) (by omega) _ _ rfl rfl) rfl ?_
  refine al_pure rfl rfl rfl (pure_move rfl gU) ?_
  refine al_pure rfl rfl rfl (pure_extract rfl gU rfl) ?_
  refine al_pure rfl rfl rfl (pure_extract rfl gU rfl) ?_
  refine al_pure rfl rfl rfl (pure_assign rfl gU) ?_
  refine al_pure rfl rfl rfl (pure_assign rfl gU) ?_
  refine al_nil ?_
  refine awp_sub (s := { t := [(5, _, _), (6, _, _)], bx := [], ow := [] }) (sub_mk (⟨sx rfl, ⟨sx rfl, trivial⟩⟩) trivial trivial) ?_
  refine awp_seq ?_
  refine awp_seq (awp_region ?_)
  refine al_pure rfl rfl rfl (pure_move rfl gU) ?_
  refine al_pure rfl rfl rfl (pure_cmp rfl rfl gU gU rfl) ?_
  refine al_nil ?_
  refine awp_cond rfl (fun hc => ?_) (fun hc => ?_)
  · try simp only [nn, Fd.rows_len, Fm.rows_len, arrR_len] at hc
    have : M1 ≤ a * b := by omega
    refine awp_seq (awp_region ?_)
    refine al_pure rfl rfl rfl (pure_assign rfl gU) ?_
    refine al_nil ?_
    refine awp_ret ?_
    repeat (first | refine tR ?_ | refine bR ?_)
    refine ret_ok rfl ?_ trivial
    exact xq_eq (by rw [sat_top this]; rfl)
  · try simp only [nn, Fd.rows_len, Fm.rows_len, arrR_len] at hc
    have : a * b < 18446744073709551616 := by omega
    refine awp_skip ?_
    refine awp_seq (awp_region ?_)
    refine al_pure rfl rfl rfl (pure_move rfl gU) ?_
    refine al_pure rfl rfl rfl (pure_min rfl rfl gU gU) ?_
    refine al_pure rfl rfl rfl (pure_assign rfl gU) ?_
    refine al_nil ?_
    refine awp_ret ?_
    repeat (first | refine tR ?_ | refine bR ?_)
    refine ret_ok rfl ?_ trivial
    exact xq_eq (by unfold sat; omega)
theorem power_spec (n : Nat) (ni : Int) (hn : ni = n) (hn2 : n ≤ 100000) : Ctr sys 95 [xi ni] [] (xq (sat (256 ^ n) : Nat)) none [] := by
  subst hn
  refine spec_intro Try.func95 rfl rfl rfl rfl rfl rfl ?_
  refine awp_seq (awp_region ?_)
  refine al_pure rfl rfl rfl (pure_assign rfl gU) ?_
  refine al_nil ?_
  refine awp_seq (awp_region ?_)
  refine al_pure rfl rfl rfl (pure_assign rfl gU) ?_
  refine al_nil ?_
  refine awp_seq ?_
  refine awp_seq (awp_region ?_)
  refine al_pure rfl rfl rfl (pure_move rfl gU) ?_
  refine al_pure rfl rfl rfl (pure_min rfl rfl gU gU) ?_
  refine al_pure rfl rfl rfl (pure_move rfl gU) ?_
  refine al_nil ?_
  refine awp_sub (s := { t := [(3, _, _), (5, _, _), (6, _, _)], bx := [], ow := [] }) (sub_mk (⟨sx rfl, ⟨sx rfl, ⟨sx rfl, trivial⟩⟩⟩) trivial trivial) ?_
  refine awp_block ?_
  refine awp_for (ι := Nat) { t := [(5, _, _)], bx := [], ow := [] } (fun k => [(6, true, xi (k : Int)), (3, true, xq (sat (256 ^ k) : Nat))]) (fun k => []) (fun k => k ≤ min n 8) (fun k => min n 8 - k) (0) (Nat.zero_le _) (sub_mk (⟨sx rfl, ⟨⟨_, rfl, tx (xq_eq (by simp only [satP0]))⟩, ⟨sx rfl, trivial⟩⟩⟩) trivial trivial) ?_
  intro k hok
  dsimp only [List.cons_append, List.nil_append]
  refine awp_seq (awp_region ?_)
  refine al_pure rfl rfl rfl (pure_cmp rfl rfl gU gU rfl) ?_
  refine al_nil ?_
  refine awp_seq ?_
  refine awp_cond rfl (fun hc => ?_) (fun hc => ?_)
  · try simp only [nn, Fd.rows_len, Fm.rows_len, arrR_len] at hc
    refine awp_skip ?_
    refine awp_seq ?_
    refine awp_block ?_
    refine awp_region ?_
    refine al_pure rfl rfl rfl (pure_move rfl gU) ?_
    refine al_call rfl rfl rfl rfl rfl rfl gU gU (mulv_spec _ 256 (sat_le _) le256 _ _ rfl rfl) rfl ?_
    refine al_pure rfl rfl rfl (pure_assign rfl gU) ?_
    refine al_nil ?_
    refine awp_region ?_
    refine al_pure rfl rfl rfl (pure_arith rfl rfl gU gU rfl (IntWalk.i64_in _ (by omega))) ?_
    refine al_pure rfl rfl rfl (pure_move rfl gU) ?_
    refine al_nil ?_
    refine ⟨k + 1, ?_, ?_, sub_mk (⟨⟨_, rfl, ?_⟩, ⟨⟨_, rfl, ?_⟩, ⟨sx rfl, trivial⟩⟩⟩) trivial trivial⟩
    all_goals (first | omega | exact tx (xq_eq (by rw [pow_sat])) | rfl)
  · try simp only [nn, Fd.rows_len, Fm.rows_len, arrR_len] at hc
    have hp : sat (256 ^ k) = sat (256 ^ n) := by
      by_cases h8 : n ≤ 8
      · rw [show k = n by omega]
      · rw [show k = 8 by omega, pow_big (show 8 ≤ n by omega)]
    refine awp_exit ?_
    repeat (first | refine thenS_exit ?_ | refine blockS_hit ?_ | refine blockS_miss rfl ?_)
    refine awp_seq (awp_region ?_)
    refine al_pure rfl rfl rfl (pure_move rfl gU) ?_
    refine al_pure rfl rfl rfl (pure_assign rfl gU) ?_
    refine al_nil ?_
    refine awp_ret ?_
    repeat (first | refine tR ?_ | refine bR ?_)
    refine ret_ok rfl ?_ trivial
    exact xq_eq (by rw [hp])
theorem xua_eq {g g' : Nat → Int} {n : Nat} (h : ∀ m, m < n → g m = g' m) : xua g n = xua g' n := by rw [xua, arrR_ext h]
theorem counts_gen (t : List Fm) (f : Fd) (n : Nat) (rec : Int → Nat → Nat) (hf : FdOk f) (hn : n ≤ 2000)
    (hz : f.kind = 5 → ∀ m, 255 < m → rec f.n m = 0)
    (hrec : f.kind = 5 → ∀ k : Nat, k ≤ 255 → ∀ ki : Int, ki = k → Ctr sys 45 [xtab t, xi f.n, xi ki] [] (xua (satI (rec f.n)) (k + 1)) none []) :
    Ctr sys 66 [xtab t, xf f, xi (n : Int)] [] (xua (satI (cntF rec f)) (n + 1)) none [] := by
  obtain ⟨hk, hb, hn2, hl, hh, hlh, h4⟩ := hf
  refine spec_intro Try.func66 rfl rfl rfl rfl rfl rfl ?_
  refine awp_seq (awp_region ?_)
  refine al_do rfl (does_box rfl rfl rfl rfl) ?_
  refine al_do rfl (does_box rfl rfl rfl rfl) ?_
  refine al_pure rfl rfl rfl (pure_assign rfl gU) ?_
  refine al_nil ?_
  refine awp_seq (awp_region ?_)
  refine al_pure rfl rfl rfl (pure_loadBox rfl gU rfl rfl rfl rfl) ?_
  refine al_pure rfl rfl rfl (pure_arith rfl rfl gU gU rfl (IntWalk.i64_in _ (by omega))) ?_
  refine al_do rfl (does_makeArr (n := n + 1) rfl rfl rfl rfl rfl rfl rfl rfl (by first | omega | (simp at hh; omega)) (by first | omega | (simp at hh; omega)) (by first | omega | (simp at hh; omega))) ?_
  refine al_val 15 rfl (by first | omega | (simp at hh; omega)) (fun u => ?_)
  refine al_do rfl (does_alloc rfl rfl rfl) ?_
  refine al_do rfl (does_store rfl rfl rfl rfl rfl rfl rfl) ?_
  refine al_nil ?_
  refine awp_sub (s := { t := [(0, _, _), (4, _, _), (5, _, _), (7, _, _), (15, _, _)], bx := [((.l 15), _), ((.l 4), _), ((.l 5), _), ((.l 7), _)], ow := [] }) (sub_mk (⟨sx rfl, ⟨sx rfl, ⟨sx rfl, ⟨sx rfl, ⟨sx rfl, trivial⟩⟩⟩⟩⟩) (⟨sx rfl, ⟨sx rfl, ⟨sx rfl, ⟨sx rfl, trivial⟩⟩⟩⟩) trivial) ?_
  refine awp_seq (awp_region ?_)
  refine al_pure rfl rfl rfl (pure_makeFunc (ys := [.ptr (.l 5) 0, .ptr (.l 7) 0]) rfl) ?_
  refine al_pure rfl rfl rfl (pure_assign rfl gU) ?_
  refine al_nil ?_
  refine awp_seq ?_
  refine awp_seq (awp_region ?_)
  refine al_pure rfl rfl rfl (pure_fieldPtr rfl gU rfl rfl) ?_
  refine al_pure rfl rfl rfl (pure_loadBox rfl gU rfl rfl rfl rfl) ?_
  refine al_nil ?_
  refine awp_block ?_
  refine awp_seq (awp_region ?_)
  refine al_pure rfl rfl rfl (pure_cmp rfl rfl gU gU rfl) ?_
  refine al_pure rfl rfl rfl (pure_assign rfl gU) ?_
  refine al_nil ?_
  refine awp_sub (s := { t := [(0, _, _), (4, _, _), (5, _, _), (7, _, _), (8, _, _), (15, _, _), (18, _, _), (19, _, _)], bx := [((.l 15), _), ((.l 4), _), ((.l 5), _), ((.l 7), _)], ow := [] }) (sub_mk (⟨sx rfl, ⟨sx rfl, ⟨sx rfl, ⟨sx rfl, ⟨sx rfl, ⟨sx rfl, ⟨sx rfl, ⟨sx rfl, trivial⟩⟩⟩⟩⟩⟩⟩⟩) (⟨sx rfl, ⟨sx rfl, ⟨sx rfl, ⟨sx rfl, trivial⟩⟩⟩⟩) trivial) ?_
  refine awp_cond rfl (fun hc => ?_) (fun hc => ?_)
  · try simp only [nn, Fd.rows_len, Fm.rows_len, arrR_len] at hc
    refine awp_region ?_
    refine al_pure rfl rfl rfl (pure_move rfl gU) ?_
    refine al_pure rfl rfl rfl (pure_fieldPtr rfl gU rfl rfl) ?_
    refine al_pure rfl rfl rfl (pure_loadBox rfl gU rfl rfl rfl rfl) ?_
    refine al_lenS rfl rfl rfl rfl rfl gU (Try.underlying9) ?_ (fun hh => by simp at hh); intro hlen
    refine al_closArr 15 setFn rfl rfl rfl rfl rfl rfl rfl rfl rfl rfl (by omega) (by first | omega | (simp at hh; omega)) (by omega) ?_
    refine al_nil ?_
    refine awp_sub (s := { t := [(7, _, _), (15, _, _)], bx := [((.l 15), _), ((.l 5), _), ((.l 7), _)], ow := [] }) (sub_mk (⟨sx rfl, ⟨sx rfl, trivial⟩⟩) (⟨sx rfl, ⟨sx rfl, ⟨sx rfl, trivial⟩⟩⟩) trivial) ?_
    refine awp_seq (awp_region ?_)
    refine al_pure rfl rfl rfl (pure_loadBox rfl gU rfl rfl rfl rfl) ?_
    refine al_same 96 15 rfl rfl ?_
    refine al_sub (s := { t := [(96, _, _)], bx := [((.l 15), _)], ow := [] }) (sub_mk (⟨sx rfl, trivial⟩) (⟨sx rfl, trivial⟩) trivial) ?_
    refine al_freezeArr 96 15 rfl rfl (by first | omega | (simp at hh; omega)) rfl ?_
    refine al_pure rfl rfl rfl (pure_assign rfl gU) ?_
    refine al_nil ?_
    refine awp_ret ?_
    repeat (first | refine tR ?_ | refine bR ?_)
    refine ret_ok rfl ?_ trivial
    refine xua_eq fun m hm => ?_
    simp only [satI, cntF, if_pos hc]
    split <;> split <;> first | rfl | omega
  · try simp only [nn, Fd.rows_len, Fm.rows_len, arrR_len] at hc
    refine awp_seq (awp_region ?_)
    refine al_pure rfl rfl rfl (pure_cmp rfl rfl gU gU rfl) ?_
    refine al_pure rfl rfl rfl (pure_assign rfl gU) ?_
    refine al_nil ?_
    refine awp_cond rfl (fun hc2 => ?_) (fun hc2 => ?_)
    · try simp only [nn, Fd.rows_len, Fm.rows_len, arrR_len] at hc2
      refine awp_drawn' (by kernel_rfl) ?_
      refine dr_pure rfl rfl rfl rfl (pure_move rfl gU) ?_
      refine dr_pure rfl rfl rfl rfl (pure_fieldPtr rfl gU rfl rfl) ?_
      refine dr_load rfl rfl rfl rfl rfl rfl rfl gU rfl rfl rfl rfl ?_
      refine dr_pure rfl rfl rfl rfl (pure_fieldPtr rfl gU rfl rfl) ?_
      refine dr_load rfl rfl rfl rfl rfl rfl rfl gU rfl rfl rfl rfl ?_
      refine dr_callN rfl rfl rfl rfl rfl rfl rfl gU gU (power_spec f.n.toNat _ (by omega) (by omega)) rfl ?_
      refine dr_closArr 5 7 15 15 setFn rfl rfl rfl rfl rfl rfl rfl rfl rfl rfl rfl rfl (by omega) (by first | omega | (simp at hh; omega)) (by omega) ?_
      refine dr_nil (by kernel_rfl) ?_
      refine awp_sub (s := { t := [(7, _, _), (15, _, _)], bx := [((.l 15), _), ((.l 5), _), ((.l 7), _)], ow := [] }) (sub_mk (⟨sx rfl, ⟨sx rfl, trivial⟩⟩) (⟨sx rfl, ⟨sx rfl, ⟨sx rfl, trivial⟩⟩⟩) trivial) ?_
      refine awp_seq (awp_region ?_)
      refine al_pure rfl rfl rfl (pure_loadBox rfl gU rfl rfl rfl rfl) ?_
      refine al_same 96 15 rfl rfl ?_
      refine al_sub (s := { t := [(96, _, _)], bx := [((.l 15), _)], ow := [] }) (sub_mk (⟨sx rfl, trivial⟩) (⟨sx rfl, trivial⟩) trivial) ?_
      refine al_freezeArr 96 15 rfl rfl (by first | omega | (simp at hh; omega)) rfl ?_
      refine al_pure rfl rfl rfl (pure_assign rfl gU) ?_
      refine al_nil ?_
      refine awp_ret ?_
      repeat (first | refine tR ?_ | refine bR ?_)
      refine ret_ok rfl ?_ trivial
      refine xua_eq fun m hm => ?_
      simp only [satI, cntF, if_neg hc, if_pos hc2]
      split
      · rename_i q
        rw [show m = f.n.toNat by omega]
      · exact satI0.symm
    · try simp only [nn, Fd.rows_len, Fm.rows_len, arrR_len] at hc2
      refine awp_seq (awp_region ?_)
      refine al_pure rfl rfl rfl (pure_cmp rfl rfl gU gU rfl) ?_
      refine al_pure rfl rfl rfl (pure_assign rfl gU) ?_
      refine al_nil ?_
      refine awp_cond rfl (fun hc3 => ?_) (fun hc3 => ?_)
      · try simp only [nn, Fd.rows_len, Fm.rows_len, arrR_len] at hc3
        refine awp_seq (awp_region ?_)
        refine al_pure rfl rfl rfl (pure_fieldPtr rfl gU rfl rfl) ?_
        refine al_pure rfl rfl rfl (pure_loadBox rfl gU rfl rfl rfl rfl) ?_
        refine al_pure rfl rfl rfl (pure_arith rfl rfl gU gU rfl (IntWalk.i64_in _ (by omega))) ?_
        refine al_pure rfl rfl rfl (pure_move rfl gU) ?_
        refine al_nil ?_
        refine awp_sub (s := { t := [(7, _, _), (8, _, _), (15, _, _), (39, _, _), (40, _, _)], bx := [((.l 15), _), ((.l 5), _), ((.l 7), _)], ow := [] }) (sub_mk (⟨sx rfl, ⟨sx rfl, ⟨sx rfl, ⟨sx rfl, ⟨sx rfl, trivial⟩⟩⟩⟩⟩) (⟨sx rfl, ⟨sx rfl, ⟨sx rfl, trivial⟩⟩⟩) trivial) ?_
        refine awp_block ?_
        refine awp_for (ι := Nat) { t := [(7, _, _), (8, _, _), (15, _, _), (39, _, _)], bx := [((.l 5), _), ((.l 7), _)], ow := [] } (fun k => [(40, true, xi (k : Int))]) (fun k => [((.l 15), arr .u64 (fun j => if 1 ≤ j ∧ j ≤ k then ((sat (256 ^ (j - 1)) : Nat) : Int) else 0) (n + 1))]) (fun k => (k : Int) ≤ f.n + 1) (fun k => f.n.toNat + 1 - k) (0) (by omega) (sub_mk (⟨sx rfl, ⟨sx rfl, ⟨sx rfl, ⟨sx rfl, ⟨sx rfl, trivial⟩⟩⟩⟩⟩) (⟨⟨_, rfl, arr_ext fun m _ => by (try split) <;> first | rfl | omega⟩, ⟨sx rfl, ⟨sx rfl, trivial⟩⟩⟩) trivial) ?_
        intro k hok
        dsimp only [List.cons_append, List.nil_append]
        refine awp_seq (awp_region ?_)
        refine al_pure rfl rfl rfl (pure_cmp rfl rfl gU gU rfl) ?_
        refine al_nil ?_
        refine awp_seq ?_
        refine awp_cond rfl (fun hc4 => ?_) (fun hc4 => ?_)
        · try simp only [nn, Fd.rows_len, Fm.rows_len, arrR_len] at hc4
          refine awp_skip ?_
          refine awp_seq ?_
          refine awp_block ?_
          refine awp_seq (awp_region ?_)
          refine al_pure rfl rfl rfl (pure_move rfl gU) ?_
          refine al_pure rfl rfl rfl (pure_assign rfl gU) ?_
          refine al_nil ?_
          refine awp_region ?_
          refine al_pure rfl rfl rfl (pure_move rfl gU) ?_
          refine al_pure rfl rfl rfl (pure_move rfl gU) ?_
          refine al_pure rfl rfl rfl (pure_arith rfl rfl gU gU rfl (IntWalk.i64_in _ (by omega))) ?_
          refine al_pure rfl rfl rfl (pure_move rfl gU) ?_
          refine al_call rfl rfl rfl rfl rfl rfl gU gU (power_spec _ _ rfl (by omega)) rfl ?_
          refine al_closArr 15 setFn rfl rfl rfl rfl rfl rfl rfl rfl rfl rfl (by omega) (by first | omega | (simp at hh; omega)) (by omega) ?_
          refine al_nil ?_
          refine awp_sub (s := { t := [(7, _, _), (8, _, _), (15, _, _), (39, _, _), (40, _, _)], bx := [((.l 15), _), ((.l 5), _), ((.l 7), _)], ow := [] }) (sub_mk (⟨sx rfl, ⟨sx rfl, ⟨sx rfl, ⟨sx rfl, ⟨sx rfl, trivial⟩⟩⟩⟩⟩) (⟨sx rfl, ⟨sx rfl, ⟨sx rfl, trivial⟩⟩⟩) trivial) ?_
          refine awp_region ?_
          refine al_pure rfl rfl rfl (pure_arith rfl rfl gU gU rfl (IntWalk.i64_in _ (by omega))) ?_
          refine al_pure rfl rfl rfl (pure_move rfl gU) ?_
          refine al_nil ?_
          refine ⟨k + 1, ?_, ?_, sub_mk (⟨⟨_, rfl, ?_⟩, ⟨sx rfl, ⟨sx rfl, ⟨sx rfl, ⟨sx rfl, trivial⟩⟩⟩⟩⟩) (⟨⟨_, rfl, ?_⟩, ⟨sx rfl, ⟨sx rfl, trivial⟩⟩⟩) trivial⟩
          · omega
          · omega
          · rfl
          · refine arr_ext fun m hm => ?_
            repeat' split
            all_goals first | rfl | omega | (rw [show m - 1 = k by omega])
        · try simp only [nn, Fd.rows_len, Fm.rows_len, arrR_len] at hc4
          refine awp_exit ?_
          repeat (first | refine thenS_exit ?_ | refine blockS_hit ?_ | refine blockS_miss rfl ?_)
          refine awp_seq (awp_region ?_)
          refine al_pure rfl rfl rfl (pure_loadBox rfl gU rfl rfl rfl rfl) ?_
          refine al_same 96 15 rfl rfl ?_
          refine al_sub (s := { t := [(96, _, _)], bx := [((.l 15), _)], ow := [] }) (sub_mk (⟨sx rfl, trivial⟩) (⟨sx rfl, trivial⟩) trivial) ?_
          refine al_freezeArr 96 15 rfl rfl (by first | omega | (simp at hh; omega)) rfl ?_
          refine al_pure rfl rfl rfl (pure_assign rfl gU) ?_
          refine al_nil ?_
          refine awp_ret ?_
          repeat (first | refine tR ?_ | refine bR ?_)
          refine ret_ok rfl ?_ trivial
          refine xua_eq fun m hm => ?_
          simp only [satI, cntF, if_neg hc, if_neg hc2, if_pos hc3]
          repeat' split
          all_goals first | rfl | omega | exact satI0.symm | exact satI1.symm
      · try simp only [nn, Fd.rows_len, Fm.rows_len, arrR_len] at hc3
        refine awp_seq (awp_region ?_)
        refine al_pure rfl rfl rfl (pure_cmp rfl rfl gU gU rfl) ?_
        refine al_pure rfl rfl rfl (pure_assign rfl gU) ?_
        refine al_nil ?_
        refine awp_sub (s := { t := [(0, _, _), (4, _, _), (5, _, _), (7, _, _), (8, _, _), (15, _, _), (18, _, _), (50, _, _)], bx := [((.l 15), _), ((.l 4), _), ((.l 5), _), ((.l 7), _)], ow := [] }) (sub_mk (⟨sx rfl, ⟨sx rfl, ⟨sx rfl, ⟨sx rfl, ⟨sx rfl, ⟨sx rfl, ⟨sx rfl, ⟨sx rfl, trivial⟩⟩⟩⟩⟩⟩⟩⟩) (⟨sx rfl, ⟨sx rfl, ⟨sx rfl, ⟨sx rfl, trivial⟩⟩⟩⟩) trivial) ?_
        refine awp_cond rfl (fun hc5 => ?_) (fun hc5 => ?_)
        · try simp only [nn, Fd.rows_len, Fm.rows_len, arrR_len] at hc5
          refine awp_region ?_
          refine al_pure rfl rfl rfl (pure_move rfl gU) ?_
          refine al_pure rfl rfl rfl (pure_fieldPtr rfl gU rfl rfl) ?_
          refine al_pure rfl rfl rfl (pure_loadBox rfl gU rfl rfl rfl rfl) ?_
          refine al_pure rfl rfl rfl (pure_fieldPtr rfl gU rfl rfl) ?_
          refine al_pure rfl rfl rfl (pure_loadBox rfl gU rfl rfl rfl rfl) ?_
          refine al_pure rfl rfl rfl (pure_arith rfl rfl gU gU rfl (IntWalk.i64_in _ (by omega))) ?_
          refine al_pure rfl rfl rfl (pure_arith rfl rfl gU gU rfl (IntWalk.i64_in _ (by omega))) ?_
          refine al_pure rfl rfl rfl (pure_convInt rfl gU ⟨_, Try.underlying3⟩ (Try.underlying77) (IntWalk.u64_in _ (by omega))) ?_
          refine al_closArr 15 setFn rfl rfl rfl rfl rfl rfl rfl rfl rfl rfl (by omega) (by first | omega | (simp at hh; omega)) (by omega) ?_
          refine al_nil ?_
          refine awp_sub (s := { t := [(7, _, _), (15, _, _)], bx := [((.l 15), _), ((.l 5), _), ((.l 7), _)], ow := [] }) (sub_mk (⟨sx rfl, ⟨sx rfl, trivial⟩⟩) (⟨sx rfl, ⟨sx rfl, ⟨sx rfl, trivial⟩⟩⟩) trivial) ?_
          refine awp_seq (awp_region ?_)
          refine al_pure rfl rfl rfl (pure_loadBox rfl gU rfl rfl rfl rfl) ?_
          refine al_same 96 15 rfl rfl ?_
          refine al_sub (s := { t := [(96, _, _)], bx := [((.l 15), _)], ow := [] }) (sub_mk (⟨sx rfl, trivial⟩) (⟨sx rfl, trivial⟩) trivial) ?_
          refine al_freezeArr 96 15 rfl rfl (by first | omega | (simp at hh; omega)) rfl ?_
          refine al_pure rfl rfl rfl (pure_assign rfl gU) ?_
          refine al_nil ?_
          refine awp_ret ?_
          repeat (first | refine tR ?_ | refine bR ?_)
          refine ret_ok rfl ?_ trivial
          refine xua_eq fun m hm => ?_
          simp only [satI, cntF, if_neg hc, if_neg hc2, if_neg hc3, if_pos hc5]
          have hs : sat (f.high - f.low + 1).toNat = (f.high - f.low + 1).toNat := sat_of (by rw [M1_val]; omega)
          repeat' split
          all_goals first | rfl | omega | exact satI0.symm | exact satI1.symm
        · try simp only [nn, Fd.rows_len, Fm.rows_len, arrR_len] at hc5
          refine awp_seq (awp_region ?_)
          refine al_pure rfl rfl rfl (pure_cmp rfl rfl gU gU rfl) ?_
          refine al_pure rfl rfl rfl (pure_assign rfl gU) ?_
          refine al_nil ?_
          refine awp_cond rfl (fun hc6 => ?_) (fun hc6 => ?_)
          · try simp only [nn, Fd.rows_len, Fm.rows_len, arrR_len] at hc6
            refine awp_seq (awp_region ?_)
            refine al_pure rfl rfl rfl (pure_move rfl gU) ?_
            refine al_pure rfl rfl rfl (pure_fieldPtr rfl gU rfl rfl) ?_
            refine al_pure rfl rfl rfl (pure_loadBox rfl gU rfl rfl rfl rfl) ?_
            refine al_pure rfl rfl rfl (pure_loadBox rfl gU rfl rfl rfl rfl) ?_
            refine al_pure rfl rfl rfl (pure_min rfl rfl gU gU) ?_
            refine al_call rfl rfl rfl rfl rfl rfl gU gU (hrec hc6 (min n 255) (by omega) (min (n : Int) 255) (by omega)) rfl ?_
            refine al_lenSl rfl rfl rfl rfl rfl gU rfl rfl ?_ (fun hh => by simp at hh); intro hlen
            refine al_pure rfl rfl rfl (pure_move rfl gU) ?_
            refine al_nil ?_
            refine awp_sub (s := { t := [(7, _, _), (8, _, _), (15, _, _), (68, _, _), (69, _, _), (70, _, _)], bx := [((.l 15), _), ((.l 5), _), ((.l 7), _)], ow := [] }) (sub_mk (⟨sx rfl, ⟨sx rfl, ⟨sx rfl, ⟨sx rfl, ⟨sx rfl, ⟨sx rfl, trivial⟩⟩⟩⟩⟩⟩) (⟨sx rfl, ⟨sx rfl, ⟨sx rfl, trivial⟩⟩⟩) trivial) ?_
            refine awp_block ?_
            refine awp_for (ι := Nat) { t := [(7, _, _), (8, _, _), (15, _, _), (68, _, _), (69, _, _)], bx := [((.l 5), _), ((.l 7), _)], ow := [] } (fun k => [(70, true, xi (k : Int))]) (fun k => [((.l 15), arr .u64 (fun j => if 1 ≤ j ∧ j ≤ k then satI (rec f.n) (j - 1) else 0) (n + 1))]) (fun k => k ≤ min n 255 + 1) (fun k => min n 255 + 1 - k) (0) (by omega) (sub_mk (⟨sx rfl, ⟨sx rfl, ⟨sx rfl, ⟨sx rfl, ⟨sx rfl, ⟨sx rfl, trivial⟩⟩⟩⟩⟩⟩) (⟨⟨_, rfl, arr_ext fun m _ => by (try split) <;> first | rfl | omega⟩, ⟨sx rfl, ⟨sx rfl, trivial⟩⟩⟩) trivial) ?_
            intro k hok
            dsimp only [List.cons_append, List.nil_append]
            have hlr := arrR_len .u64 (satI (rec f.n)) (min n 255 + 1)
            refine awp_seq (awp_region ?_)
            refine al_pure rfl rfl rfl (pure_cmp rfl rfl gU gU rfl) ?_
            refine al_nil ?_
            refine awp_seq ?_
            refine awp_cond rfl (fun hc7 => ?_) (fun hc7 => ?_)
            · try simp only [nn, Fd.rows_len, Fm.rows_len, arrR_len] at hc7
              refine awp_skip ?_
              refine awp_seq ?_
              refine awp_block ?_
              refine awp_seq (awp_region ?_)
              refine al_pure rfl rfl rfl (pure_move rfl gU) ?_
              refine al_pure rfl rfl rfl (pure_indexAddr rfl rfl gU gU rfl rfl rfl (fun hh => arrR_at (by first | omega | (simp at hh; omega)))) ?_
              refine al_pure rfl rfl rfl (pure_loadRo rfl gU rfl rfl rfl) ?_
              refine al_pure rfl rfl rfl (pure_assign rfl gU) ?_
              refine al_pure rfl rfl rfl (pure_assign rfl gU) ?_
              refine al_nil ?_
              refine awp_sub (s := { t := [(7, _, _), (8, _, _), (10, _, _), (11, _, _), (15, _, _), (68, _, _), (69, _, _), (70, _, _)], bx := [((.l 15), _), ((.l 5), _), ((.l 7), _)], ow := [] }) (sub_mk (⟨sx rfl, ⟨sx rfl, ⟨sx rfl, ⟨sx rfl, ⟨sx rfl, ⟨sx rfl, ⟨sx rfl, ⟨sx rfl, trivial⟩⟩⟩⟩⟩⟩⟩⟩) (⟨sx rfl, ⟨sx rfl, ⟨sx rfl, trivial⟩⟩⟩) trivial) ?_
              refine awp_region ?_
              refine al_pure rfl rfl rfl (pure_move rfl gU) ?_
              refine al_pure rfl rfl rfl (pure_move rfl gU) ?_
              refine al_pure rfl rfl rfl (pure_arith rfl rfl gU gU rfl (IntWalk.i64_in _ (by omega))) ?_
              refine al_pure rfl rfl rfl (pure_move rfl gU) ?_
              refine al_closArr 15 setFn rfl rfl rfl rfl rfl rfl rfl rfl rfl rfl (by omega) (by first | omega | (simp at hh; omega)) (by omega) ?_
              refine al_nil ?_
              refine awp_sub (s := { t := [(7, _, _), (8, _, _), (15, _, _), (68, _, _), (69, _, _), (70, _, _)], bx := [((.l 15), _), ((.l 5), _), ((.l 7), _)], ow := [] }) (sub_mk (⟨sx rfl, ⟨sx rfl, ⟨sx rfl, ⟨sx rfl, ⟨sx rfl, ⟨sx rfl, trivial⟩⟩⟩⟩⟩⟩) (⟨sx rfl, ⟨sx rfl, ⟨sx rfl, trivial⟩⟩⟩) trivial) ?_
              refine awp_region ?_
              refine al_pure rfl rfl rfl (pure_arith rfl rfl gU gU rfl (IntWalk.i64_in _ (by omega))) ?_
              refine al_pure rfl rfl rfl (pure_move rfl gU) ?_
              refine al_nil ?_
              refine ⟨k + 1, ?_, ?_, sub_mk (⟨⟨_, rfl, ?_⟩, ⟨sx rfl, ⟨sx rfl, ⟨sx rfl, ⟨sx rfl, ⟨sx rfl, trivial⟩⟩⟩⟩⟩⟩) (⟨⟨_, rfl, ?_⟩, ⟨sx rfl, ⟨sx rfl, trivial⟩⟩⟩) trivial⟩
              · omega
              · omega
              · rfl
              · refine arr_ext fun m hm => ?_
                repeat' split
                all_goals first | rfl | omega | (rw [show m - 1 = k by omega])
            · try simp only [nn, Fd.rows_len, Fm.rows_len, arrR_len] at hc7
              refine awp_exit ?_
              repeat (first | refine thenS_exit ?_ | refine blockS_hit ?_ | refine blockS_miss rfl ?_)
              refine awp_seq (awp_region ?_)
              refine al_pure rfl rfl rfl (pure_loadBox rfl gU rfl rfl rfl rfl) ?_
              refine al_same 96 15 rfl rfl ?_
              refine al_sub (s := { t := [(96, _, _)], bx := [((.l 15), _)], ow := [] }) (sub_mk (⟨sx rfl, trivial⟩) (⟨sx rfl, trivial⟩) trivial) ?_
              refine al_freezeArr 96 15 rfl rfl (by first | omega | (simp at hh; omega)) rfl ?_
              refine al_pure rfl rfl rfl (pure_assign rfl gU) ?_
              refine al_nil ?_
              refine awp_ret ?_
              repeat (first | refine tR ?_ | refine bR ?_)
              refine ret_ok rfl ?_ trivial
              refine xua_eq fun m hm => ?_
              simp only [satI, cntF, if_neg hc, if_neg hc2, if_neg hc3, if_neg hc5, if_pos hc6]
              repeat' split
              all_goals first | rfl | omega | exact satI0.symm | (rw [hz hc6 (m - 1) (by omega)]; exact satI0.symm)
          · try simp only [nn, Fd.rows_len, Fm.rows_len, arrR_len] at hc6
            refine awp_seq (awp_region ?_)
            refine al_pure rfl rfl rfl (pure_cmp rfl rfl gU gU rfl) ?_
            refine al_pure rfl rfl rfl (pure_assign rfl gU) ?_
            refine al_nil ?_
            refine awp_cond rfl (fun hc8 => ?_) (fun hc8 => ?_)
            · try simp only [nn, Fd.rows_len, Fm.rows_len, arrR_len] at hc8
              refine awp_seq (awp_region ?_)
              refine al_pure rfl rfl rfl (pure_fieldPtr rfl gU rfl rfl) ?_
              refine al_pure rfl rfl rfl (pure_loadBox rfl gU rfl rfl rfl rfl) ?_
              refine al_pure rfl rfl rfl (pure_assign rfl gU) ?_
              refine al_nil ?_
              refine awp_sub (s := { t := [(4, _, _), (7, _, _), (8, _, _), (12, _, _), (15, _, _)], bx := [((.l 15), _), ((.l 4), _), ((.l 5), _), ((.l 7), _)], ow := [] }) (sub_mk (⟨sx rfl, ⟨sx rfl, ⟨sx rfl, ⟨sx rfl, ⟨sx rfl, trivial⟩⟩⟩⟩⟩) (⟨sx rfl, ⟨sx rfl, ⟨sx rfl, ⟨sx rfl, trivial⟩⟩⟩⟩) trivial) ?_
              refine awp_block ?_
              refine awp_for (ι := Nat) { t := [(4, _, _), (7, _, _), (8, _, _), (15, _, _)], bx := [((.l 4), _), ((.l 5), _), ((.l 7), _)], ow := [] } (fun k => [(12, true, xi (f.low + (k : Int)))]) (fun k => [((.l 15), arr .u64 (fun j => if f.low ≤ (j : Int) ∧ (j : Int) < f.low + k then ((sat (256 ^ j) : Nat) : Int) else 0) (n + 1))]) (fun k => f.low + k ≤ f.high + 1) (fun k => (f.high + 1 - f.low).toNat - k) (0) (by omega) (sub_mk (⟨⟨_, rfl, tx (xi_eq (by omega))⟩, ⟨sx rfl, ⟨sx rfl, ⟨sx rfl, ⟨sx rfl, trivial⟩⟩⟩⟩⟩) (⟨⟨_, rfl, arr_ext fun m _ => by (try split) <;> first | rfl | omega⟩, ⟨sx rfl, ⟨sx rfl, ⟨sx rfl, trivial⟩⟩⟩⟩) trivial) ?_
              intro k hok
              dsimp only [List.cons_append, List.nil_append]
              refine awp_seq ?_
              refine awp_seq (awp_region ?_)
              refine al_pure rfl rfl rfl (pure_move rfl gU) ?_
              refine al_pure rfl rfl rfl (pure_fieldPtr rfl gU rfl rfl) ?_
              refine al_pure rfl rfl rfl (pure_loadBox rfl gU rfl rfl rfl rfl) ?_
              refine al_pure rfl rfl rfl (pure_cmp rfl rfl gU gU rfl) ?_
              refine al_nil ?_
              refine awp_cond rfl (fun hc9 => ?_) (fun hc9 => ?_)
              · try simp only [nn, Fd.rows_len, Fm.rows_len, arrR_len] at hc9
                refine awp_skip ?_
                refine awp_seq ?_
                refine awp_block ?_
                refine awp_region ?_
                refine al_pure rfl rfl rfl (pure_move rfl gU) ?_
                refine al_pure rfl rfl rfl (pure_move rfl gU) ?_
                refine al_pure rfl rfl rfl (pure_move rfl gU) ?_
                refine al_call rfl rfl rfl rfl rfl rfl gU gU (power_spec (f.low.toNat + k) _ (by omega) (by omega)) rfl ?_
                refine al_closArr 15 setFn rfl rfl rfl rfl rfl rfl rfl rfl rfl rfl (by omega) (by first | omega | (simp at hh; omega)) (by omega) ?_
                refine al_nil ?_
                refine awp_sub (s := { t := [(4, _, _), (7, _, _), (8, _, _), (12, _, _), (15, _, _)], bx := [((.l 15), _), ((.l 4), _), ((.l 5), _), ((.l 7), _)], ow := [] }) (sub_mk (⟨sx rfl, ⟨sx rfl, ⟨sx rfl, ⟨sx rfl, ⟨sx rfl, trivial⟩⟩⟩⟩⟩) (⟨sx rfl, ⟨sx rfl, ⟨sx rfl, ⟨sx rfl, trivial⟩⟩⟩⟩) trivial) ?_
                refine awp_region ?_
                refine al_pure rfl rfl rfl (pure_move rfl gU) ?_
                refine al_pure rfl rfl rfl (pure_arith rfl rfl gU gU rfl (IntWalk.i64_in _ (by omega))) ?_
                refine al_pure rfl rfl rfl (pure_assign rfl gU) ?_
                refine al_nil ?_
                refine ⟨k + 1, ?_, ?_, sub_mk (⟨⟨_, rfl, ?_⟩, ⟨sx rfl, ⟨sx rfl, ⟨sx rfl, ⟨sx rfl, trivial⟩⟩⟩⟩⟩) (⟨⟨_, rfl, ?_⟩, ⟨sx rfl, ⟨sx rfl, ⟨sx rfl, trivial⟩⟩⟩⟩) trivial⟩
                · omega
                · omega
                · exact tx (xi_eq (by omega))
                · refine arr_ext fun m hm => ?_
                  repeat' split
                  all_goals first | rfl | omega | (rw [show m = f.low.toNat + k by omega])
              · try simp only [nn, Fd.rows_len, Fm.rows_len, arrR_len] at hc9
                refine awp_exit ?_
                repeat (first | refine thenS_exit ?_ | refine blockS_hit ?_ | refine blockS_miss rfl ?_)
                refine awp_seq (awp_region ?_)
                refine al_pure rfl rfl rfl (pure_loadBox rfl gU rfl rfl rfl rfl) ?_
                refine al_same 96 15 rfl rfl ?_
                refine al_sub (s := { t := [(96, _, _)], bx := [((.l 15), _)], ow := [] }) (sub_mk (⟨sx rfl, trivial⟩) (⟨sx rfl, trivial⟩) trivial) ?_
                refine al_freezeArr 96 15 rfl rfl (by first | omega | (simp at hh; omega)) rfl ?_
                refine al_pure rfl rfl rfl (pure_assign rfl gU) ?_
                refine al_nil ?_
                refine awp_ret ?_
                repeat (first | refine tR ?_ | refine bR ?_)
                refine ret_ok rfl ?_ trivial
                refine xua_eq fun m hm => ?_
                simp only [satI, cntF, if_neg hc, if_neg hc2, if_neg hc3, if_neg hc5, if_neg hc6]
                repeat' split
                all_goals first | rfl | omega | exact satI0.symm
            · try simp only [nn, Fd.rows_len, Fm.rows_len, arrR_len] at hc8
              exfalso; omega
end Go.Proofs.Ytgjclggjkhapfaa
/- Contracts: all numbers of strings, and Count, as codec counts. -/
set_option linter.unusedVariables false
set_option linter.unusedSimpArgs false
namespace Go.Proofs.Ytgjclggjkhapfaa
open Go Go.Abs
theorem upd0_one0 (n : Nat) : arr .u64 (upd (fun _ => 0) 0 1) (n + 1) = arr .u64 (satI one0) (n + 1) := by
  refine arr_ext fun m hm => ?_
  unfold upd satI one0
  split
  · exact satI1.symm
  · exact satI0.symm
theorem pt_zero (x c : Nat → Nat) (m : Nat) : pt x c 0 m = 0 := rfl
theorem arrT_len (k : IntKind) (g : Nat → Int) (n a : Nat) : (((arrR k g (n + 1)).take (n + 1 - a)).drop 0).length = n + 1 - a := by simp [arrR_len]
theorem arrT_at {k : IntKind} {g : Nat → Int} {n a j : Nat} (h : j < n + 1 - a) : (((arrR k g (n + 1)).take (n + 1 - a)).drop 0)[j]? = some [.i k (g j)] := by
  rw [List.drop_zero, arrR_take (by omega)]; exact arrR_at h
theorem all_gen (t : List Fm) (i : Int) (n : Nat) (ni : Int) (rec : Int → Nat → Nat) (hni : ni = n) (hi : 0 ≤ i ∧ i < t.length) (hl6 : (t.getD i.toNat default).fields.length ≤ 6) (hn : n ≤ 2000)
    (hcnt : ∀ k, k < (t.getD i.toNat default).fields.length → Ctr sys 66 [xtab t, xf ((t.getD i.toNat default).fields.getD k default), xi (n : Int)] [] (xua (satI (cntF rec ((t.getD i.toNat default).fields.getD k default))) (n + 1)) none []) :
    Ctr sys 45 [xtab t, xi i, xi ni] [] (xua (satI (cntL rec (t.getD i.toNat default).fields one0)) (n + 1)) none [] := by
  subst hni
  have hrl := Fm.rows_len t
  have hrf := Fd.rows_len (t.getD i.toNat default).fields
  refine spec_intro Try.func45 rfl rfl rfl rfl rfl rfl ?_
  refine awp_seq (awp_region ?_)
  refine al_pure rfl rfl rfl (pure_assign rfl gU) ?_
  refine al_nil ?_
  refine awp_seq (awp_region ?_)
  refine al_pure rfl rfl rfl (pure_move rfl gU) ?_
  refine al_pure rfl rfl rfl (pure_arith rfl rfl gU gU rfl (IntWalk.i64_in _ (by omega))) ?_
  refine al_do rfl (does_makeArr (n := n + 1) rfl rfl rfl rfl rfl rfl rfl rfl (by first | omega | (simp at hh; omega)) (by first | omega | (simp at hh; omega)) (by first | omega | (simp at hh; omega))) ?_
  refine al_pure rfl rfl rfl (pure_assign rfl gU) ?_
  refine al_nil ?_
  refine awp_sub (s := { t := [(0, _, _), (1, _, _), (2, _, _), (7, _, _)], bx := [((.l 18), _)], ow := [] }) (sub_mk (⟨sx rfl, ⟨sx rfl, ⟨sx rfl, ⟨sx rfl, trivial⟩⟩⟩⟩) (⟨sx rfl, trivial⟩) trivial) ?_
  refine awp_seq (awp_region ?_)
  refine al_pure rfl rfl rfl (pure_move rfl gU) ?_
  refine al_pure rfl rfl rfl (pure_indexMs (j := 0) rfl rfl gU gU rfl rfl (by first | rfl | first | omega | (simp at hh; omega)) (fun hh => by first | omega | (simp at hh; omega))) ?_
  refine al_do rfl (does_storeArr rfl rfl rfl rfl rfl (by first | omega | (simp at hh; omega)) rfl) ?_
  refine al_nil ?_
  refine awp_seq ?_
  refine awp_seq (awp_region ?_)
  refine al_pure rfl rfl rfl (pure_move rfl gU) ?_
  refine al_pure rfl rfl rfl (pure_move rfl gU) ?_
  refine al_pure rfl rfl rfl (pure_indexAddr (j := i.toNat) rfl rfl gU gU rfl rfl (by first | omega | (simp at hh; omega)) (fun hh => Fm.rows_at (by first | omega | (simp at hh; omega)))) ?_
  refine al_pure rfl rfl rfl (pure_fieldRo rfl gU rfl rfl) ?_
  refine al_pure rfl rfl rfl (pure_loadRo rfl gU rfl rfl rfl) ?_
  refine al_lenSl rfl rfl rfl rfl rfl gU rfl rfl ?_ (fun hh => by simp at hh); intro hlen
  refine al_pure rfl rfl rfl (pure_move rfl gU) ?_
  refine al_nil ?_
  refine awp_sub (s := { t := [(0, _, _), (2, _, _), (7, _, _), (25, _, _), (26, _, _), (27, _, _)], bx := [((.l 18), _)], ow := [] }) (sub_mk (⟨sx rfl, ⟨sx rfl, ⟨sx rfl, ⟨sx rfl, ⟨sx rfl, ⟨sx rfl, trivial⟩⟩⟩⟩⟩⟩) (⟨sx rfl, trivial⟩) trivial) ?_
  refine awp_block ?_
  refine awp_for (ι := Nat × (Nat → Nat)) { t := [(0, _, _), (2, _, _), (25, _, _), (26, _, _)], bx := [], ow := [] } (fun p => [(27, true, xi (p.1 : Int)), (7, true, .v (.ms (.l 18) 1 0 (n + 1)))]) (fun p => [((.l 18), arr .u64 (satI p.2) (n + 1))]) (fun p => p.1 ≤ (t.getD i.toNat default).fields.length ∧ cntL rec ((t.getD i.toNat default).fields.drop p.1) p.2 = cntL rec (t.getD i.toNat default).fields one0) (fun p => (t.getD i.toNat default).fields.length - p.1) ((0, one0)) (⟨by simp, rfl⟩) (sub_mk (⟨sx rfl, ⟨sx rfl, ⟨sx rfl, ⟨sx rfl, ⟨sx rfl, ⟨sx rfl, trivial⟩⟩⟩⟩⟩⟩) (⟨⟨_, rfl, upd0_one0 n⟩, trivial⟩) trivial) ?_
  intro p hok
  dsimp only [List.cons_append, List.nil_append] at *
  obtain ⟨k, x⟩ := p
  dsimp only at hok ⊢
  obtain ⟨hk, hinv⟩ := hok
  refine awp_seq (awp_region ?_)
  refine al_pure rfl rfl rfl (pure_cmp rfl rfl gU gU rfl) ?_
  refine al_nil ?_
  refine awp_seq ?_
  refine awp_cond rfl (fun hc => ?_) (fun hc => ?_)
  · try simp only [nn, Fd.rows_len, Fm.rows_len, arrR_len] at hc
    rw [cntL_drop rec (by omega)] at hinv
    have hcn := hcnt k (by omega)
    generalize cntF rec ((t.getD i.toNat default).fields.getD k default) = c at *
    refine awp_skip ?_
    refine awp_seq ?_
    refine awp_block ?_
    refine awp_seq (awp_region ?_)
    refine al_pure rfl rfl rfl (pure_indexAddr rfl rfl gU gU rfl rfl rfl (fun hh => Fd.rows_at (by first | omega | (simp at hh; omega)))) ?_
    refine al_pure rfl rfl rfl (pure_loadRoRow rfl gU rfl rfl rfl rfl) ?_
    refine al_do rfl (does_alloc rfl rfl rfl) ?_
    refine al_do rfl (does_store rfl rfl rfl rfl rfl rfl rfl) ?_
    refine al_nil ?_
    refine awp_seq (awp_region ?_)
    refine al_pure rfl rfl rfl (pure_move rfl gU) ?_
    refine al_pure rfl rfl rfl (pure_loadBoxRow rfl gU rfl rfl rfl rfl rfl) ?_
    refine al_pure rfl rfl rfl (pure_move rfl gU) ?_
    refine al_call rfl rfl rfl rfl rfl rfl gU gU (hcn) rfl ?_
    refine al_pure rfl rfl rfl (pure_assign rfl gU) ?_
    refine al_nil ?_
    refine awp_sub (s := { t := [(0, _, _), (2, _, _), (7, _, _), (10, _, _), (25, _, _), (26, _, _), (27, _, _)], bx := [((.l 18), _)], ow := [] }) (sub_mk (⟨sx rfl, ⟨sx rfl, ⟨sx rfl, ⟨sx rfl, ⟨sx rfl, ⟨sx rfl, ⟨sx rfl, trivial⟩⟩⟩⟩⟩⟩⟩) (⟨sx rfl, trivial⟩) trivial) ?_
    refine awp_seq (awp_region ?_)
    refine al_pure rfl rfl rfl (pure_move rfl gU) ?_
    refine al_pure rfl rfl rfl (pure_arith rfl rfl gU gU rfl (IntWalk.i64_in _ (by omega))) ?_
    refine al_do rfl (does_makeArr (n := n + 1) rfl rfl rfl rfl rfl rfl rfl rfl (by first | omega | (simp at hh; omega)) (by first | omega | (simp at hh; omega)) (by first | omega | (simp at hh; omega))) ?_
    refine al_pure rfl rfl rfl (pure_assign rfl gU) ?_
    refine al_nil ?_
    refine awp_seq ?_
    refine awp_seq (awp_region ?_)
    refine al_pure rfl rfl rfl (pure_move rfl gU) ?_
    refine al_pure rfl rfl rfl (pure_lenMs rfl gU rfl rfl) ?_
    refine al_pure rfl rfl rfl (pure_move rfl gU) ?_
    refine al_nil ?_
    refine awp_sub (s := { t := [(0, _, _), (2, _, _), (10, _, _), (11, _, _), (25, _, _), (26, _, _), (27, _, _), (38, _, _), (39, _, _), (40, _, _)], bx := [((.l 18), _), ((.l 37), _)], ow := [] }) (sub_mk (⟨sx rfl, ⟨sx rfl, ⟨sx rfl, ⟨sx rfl, ⟨sx rfl, ⟨sx rfl, ⟨sx rfl, ⟨sx rfl, ⟨sx rfl, ⟨sx rfl, trivial⟩⟩⟩⟩⟩⟩⟩⟩⟩⟩) (⟨sx rfl, ⟨sx rfl, trivial⟩⟩) trivial) ?_
    refine awp_block ?_
    refine awp_for (ι := Nat) { t := [(0, _, _), (2, _, _), (10, _, _), (11, _, _), (25, _, _), (26, _, _), (27, _, _), (38, _, _), (39, _, _)], bx := [((.l 18), _)], ow := [] } (fun a => [(40, true, xi (a : Int))]) (fun a => [((.l 37), arr .u64 (satI (pt x c a)) (n + 1))]) (fun a => a ≤ n + 1) (fun a => n + 1 - a) (0) (by omega) (sub_mk (⟨sx rfl, ⟨sx rfl, ⟨sx rfl, ⟨sx rfl, ⟨sx rfl, ⟨sx rfl, ⟨sx rfl, ⟨sx rfl, ⟨sx rfl, ⟨sx rfl, trivial⟩⟩⟩⟩⟩⟩⟩⟩⟩⟩) (⟨⟨_, rfl, arr_ext fun m _ => by simp only [satI, pt_zero, satI0]⟩, ⟨sx rfl, trivial⟩⟩) trivial) ?_
    intro a hok2
    dsimp only [List.cons_append, List.nil_append]
    have hlr := arrR_len .u64 (satI c) (n + 1)
    refine awp_seq (awp_region ?_)
    refine al_pure rfl rfl rfl (pure_cmp rfl rfl gU gU rfl) ?_
    refine al_nil ?_
    refine awp_seq ?_
    refine awp_cond rfl (fun hc2 => ?_) (fun hc2 => ?_)
    · try simp only [nn, Fd.rows_len, Fm.rows_len, arrR_len] at hc2
      refine awp_skip ?_
      refine awp_seq ?_
      refine awp_block ?_
      refine awp_seq (awp_region ?_)
      refine al_pure rfl rfl rfl (pure_move rfl gU) ?_
      refine al_pure rfl rfl rfl (pure_indexMs rfl rfl gU gU rfl rfl rfl (fun hh => by first | omega | (simp at hh; omega))) ?_
      refine al_pure rfl rfl rfl (pure_loadBox rfl gU rfl rfl rfl (arr_at (by first | omega | (simp at hh; omega)))) ?_
      refine al_pure rfl rfl rfl (pure_assign rfl gU) ?_
      refine al_pure rfl rfl rfl (pure_assign rfl gU) ?_
      refine al_nil ?_
      refine awp_sub (s := { t := [(0, _, _), (2, _, _), (10, _, _), (11, _, _), (12, _, _), (13, _, _), (25, _, _), (26, _, _), (27, _, _), (38, _, _), (39, _, _), (40, _, _)], bx := [((.l 18), _), ((.l 37), _)], ow := [] }) (sub_mk (⟨sx rfl, ⟨sx rfl, ⟨sx rfl, ⟨sx rfl, ⟨sx rfl, ⟨sx rfl, ⟨sx rfl, ⟨sx rfl, ⟨sx rfl, ⟨sx rfl, ⟨sx rfl, ⟨sx rfl, trivial⟩⟩⟩⟩⟩⟩⟩⟩⟩⟩⟩⟩) (⟨sx rfl, ⟨sx rfl, trivial⟩⟩) trivial) ?_
      refine awp_seq ?_
      refine awp_seq (awp_region ?_)
      refine al_pure rfl rfl rfl (pure_move rfl gU) ?_
      refine al_pure rfl rfl rfl (pure_cmp rfl rfl gU gU rfl) ?_
      refine al_nil ?_
      refine awp_cond rfl (fun hc3 => ?_) (fun hc3 => ?_)
      · try simp only [nn, Fd.rows_len, Fm.rows_len, arrR_len] at hc3
        have hx0 : x a = 0 := sat_zero.1 (by simp only [satI] at hc3; omega)
        refine awp_exit ?_
        repeat (first | refine thenS_exit ?_ | refine blockS_hit ?_ | refine blockS_miss rfl ?_)
        refine awp_region ?_
        refine al_pure rfl rfl rfl (pure_arith rfl rfl gU gU rfl (IntWalk.i64_in _ (by omega))) ?_
        refine al_pure rfl rfl rfl (pure_move rfl gU) ?_
        refine al_nil ?_
        refine ⟨a + 1, ?_, ?_, sub_mk (⟨⟨_, rfl, ?_⟩, ⟨sx rfl, ⟨sx rfl, ⟨sx rfl, ⟨sx rfl, ⟨sx rfl, ⟨sx rfl, ⟨sx rfl, ⟨sx rfl, ⟨sx rfl, trivial⟩⟩⟩⟩⟩⟩⟩⟩⟩⟩) (⟨⟨_, rfl, ?_⟩, ⟨sx rfl, trivial⟩⟩) trivial⟩
        · omega
        · omega
        · rfl
        · refine arr_ext fun m _ => ?_
          simp only [satI, pt_succ, hx0, Nat.zero_mul, ite_self, Nat.add_zero]
      · try simp only [nn, Fd.rows_len, Fm.rows_len, arrR_len] at hc3
        refine awp_skip ?_
        refine awp_seq (awp_region ?_)
        refine al_pure rfl rfl rfl (pure_move rfl gU) ?_
        refine al_pure rfl rfl rfl (pure_move rfl gU) ?_
        refine al_pure rfl rfl rfl (pure_arith rfl rfl gU gU rfl (IntWalk.i64_in _ (by omega))) ?_
        refine al_pure rfl rfl rfl (pure_move rfl gU) ?_
        refine al_pure rfl rfl rfl (pure_arith rfl rfl gU gU rfl (IntWalk.i64_in _ (by omega))) ?_
        refine al_pure rfl rfl rfl (pure_slice (h' := (n + 1 - a)) rfl gU rfl rfl (fun _ => rfl) (fun _ => ⟨_, _, _, rfl, gU, by first | omega | (simp at hh; omega)⟩) (fun hh => by first | omega | (simp at hh; omega)) (fun hh => by first | omega | (simp at hh; omega))) ?_
        refine al_lenSl rfl rfl rfl rfl rfl gU rfl rfl ?_ (fun hh => by simp at hh); intro hlen
        refine al_pure rfl rfl rfl (pure_move rfl gU) ?_
        refine al_nil ?_
        refine awp_sub (s := { t := [(0, _, _), (2, _, _), (10, _, _), (11, _, _), (12, _, _), (13, _, _), (25, _, _), (26, _, _), (27, _, _), (38, _, _), (39, _, _), (40, _, _), (52, _, _), (53, _, _), (54, _, _)], bx := [((.l 18), _), ((.l 37), _)], ow := [] }) (sub_mk (⟨sx rfl, ⟨sx rfl, ⟨sx rfl, ⟨sx rfl, ⟨sx rfl, ⟨sx rfl, ⟨sx rfl, ⟨sx rfl, ⟨sx rfl, ⟨sx rfl, ⟨sx rfl, ⟨sx rfl, ⟨sx rfl, ⟨sx rfl, ⟨sx rfl, trivial⟩⟩⟩⟩⟩⟩⟩⟩⟩⟩⟩⟩⟩⟩⟩) (⟨sx rfl, ⟨sx rfl, trivial⟩⟩) trivial) ?_
        refine awp_block ?_
        refine awp_for (ι := Nat) { t := [(0, _, _), (2, _, _), (10, _, _), (11, _, _), (12, _, _), (13, _, _), (25, _, _), (26, _, _), (27, _, _), (38, _, _), (39, _, _), (40, _, _), (52, _, _), (53, _, _)], bx := [((.l 18), _)], ow := [] } (fun b => [(54, true, xi (b : Int))]) (fun b => [((.l 37), arr .u64 (satI (part x c a b)) (n + 1))]) (fun b => b ≤ n + 1 - a) (fun b => n + 1 - a - b) (0) (by omega) (sub_mk (⟨sx rfl, ⟨sx rfl, ⟨sx rfl, ⟨sx rfl, ⟨sx rfl, ⟨sx rfl, ⟨sx rfl, ⟨sx rfl, ⟨sx rfl, ⟨sx rfl, ⟨sx rfl, ⟨sx rfl, ⟨sx rfl, ⟨sx rfl, ⟨sx rfl, trivial⟩⟩⟩⟩⟩⟩⟩⟩⟩⟩⟩⟩⟩⟩⟩) (⟨⟨_, rfl, arr_ext fun m _ => by simp only [satI, part_zero]⟩, ⟨sx rfl, trivial⟩⟩) trivial) ?_
        intro b hok3
        dsimp only [List.cons_append, List.nil_append]
        have hlt := arrT_len .u64 (satI c) n a
        refine awp_seq (awp_region ?_)
        refine al_pure rfl rfl rfl (pure_cmp rfl rfl gU gU rfl) ?_
        refine al_nil ?_
        refine awp_seq ?_
        refine awp_cond rfl (fun hc4 => ?_) (fun hc4 => ?_)
        · try simp only [nn, Fd.rows_len, Fm.rows_len, arrR_len] at hc4
          refine awp_skip ?_
          refine awp_seq ?_
          refine awp_block ?_
          refine awp_seq (awp_region ?_)
          refine al_pure rfl rfl rfl (pure_move rfl gU) ?_
          refine al_pure rfl rfl rfl (pure_indexAddr rfl rfl gU gU rfl rfl rfl (fun hh => arrT_at (by first | omega | (simp at hh; omega)))) ?_
          refine al_pure rfl rfl rfl (pure_loadRo rfl gU rfl rfl rfl) ?_
          refine al_pure rfl rfl rfl (pure_assign rfl gU) ?_
          refine al_pure rfl rfl rfl (pure_assign rfl gU) ?_
          refine al_nil ?_
          refine awp_sub (s := { t := [(0, _, _), (2, _, _), (10, _, _), (11, _, _), (12, _, _), (13, _, _), (14, _, _), (15, _, _), (25, _, _), (26, _, _), (27, _, _), (38, _, _), (39, _, _), (40, _, _), (52, _, _), (53, _, _), (54, _, _)], bx := [((.l 18), _), ((.l 37), _)], ow := [] }) (sub_mk (⟨sx rfl, ⟨sx rfl, ⟨sx rfl, ⟨sx rfl, ⟨sx rfl, ⟨sx rfl, ⟨sx rfl, ⟨sx rfl, ⟨sx rfl, ⟨sx rfl, ⟨sx rfl, ⟨sx rfl, ⟨sx rfl, ⟨sx rfl, ⟨sx rfl, ⟨sx rfl, ⟨sx rfl, trivial⟩⟩⟩⟩⟩⟩⟩⟩⟩⟩⟩⟩⟩⟩⟩⟩⟩) (⟨sx rfl, ⟨sx rfl, trivial⟩⟩) trivial) ?_
          refine awp_seq (awp_region ?_)
          refine al_pure rfl rfl rfl (pure_move rfl gU) ?_
          refine al_pure rfl rfl rfl (pure_cmp rfl rfl gU gU rfl) ?_
          refine al_nil ?_
          refine awp_cond rfl (fun hc5 => ?_) (fun hc5 => ?_)
          · try simp only [nn, Fd.rows_len, Fm.rows_len, arrR_len] at hc5
            refine awp_drawn' (by kernel_rfl) ?_
            refine dr_pure rfl rfl rfl rfl (pure_move rfl gU) ?_
            refine dr_pure rfl rfl rfl rfl (pure_move rfl gU) ?_
            refine dr_pure rfl rfl rfl rfl (pure_move rfl gU) ?_
            refine dr_pure rfl rfl rfl rfl (pure_arith rfl rfl gU gU rfl (IntWalk.i64_in _ (by omega))) ?_
            refine dr_pure rfl rfl rfl rfl (pure_move rfl gU) ?_
            refine dr_pure rfl rfl rfl rfl (pure_move rfl gU) ?_
            refine dr_pure rfl rfl rfl rfl (pure_move rfl gU) ?_
            refine dr_pure rfl rfl rfl rfl (pure_arith rfl rfl gU gU rfl (IntWalk.i64_in _ (by omega))) ?_
            refine dr_pure rfl rfl rfl rfl (pure_indexMs (j := a + b) rfl rfl gU gU rfl rfl (by first | rfl | first | omega | (simp at hh; omega)) (fun hh => by first | omega | (simp at hh; omega))) ?_
            refine dr_load rfl rfl rfl rfl rfl rfl rfl gU rfl rfl rfl (arr_at (by first | omega | (simp at hh; omega))) ?_
            refine dr_pure rfl rfl rfl rfl (pure_move rfl gU) ?_
            refine dr_pure rfl rfl rfl rfl (pure_move rfl gU) ?_
            refine dr_callN rfl rfl rfl rfl rfl rfl rfl gU gU (mulv_spec (sat (x a)) (sat (c b)) (sat_le _) (sat_le _) _ _ rfl rfl) rfl ?_
            refine dr_callN rfl rfl rfl rfl rfl rfl rfl gU gU (add_spec (sat (part x c a b (a + b))) (sat (sat (x a) * sat (c b))) (sat_le _) (sat_le _) _ _ rfl rfl) rfl ?_
            refine dr_pure rfl rfl rfl rfl (pure_indexMs (j := a + b) rfl rfl gU gU rfl rfl (by first | rfl | first | omega | (simp at hh; omega)) (fun hh => by first | omega | (simp at hh; omega))) ?_
            refine dr_storeArr rfl rfl rfl rfl rfl rfl rfl rfl rfl rfl (by first | omega | (simp at hh; omega)) rfl ?_
            refine dr_nil (by kernel_rfl) ?_
            refine awp_sub (s := { t := [(0, _, _), (2, _, _), (10, _, _), (11, _, _), (12, _, _), (13, _, _), (25, _, _), (26, _, _), (27, _, _), (38, _, _), (39, _, _), (40, _, _), (52, _, _), (53, _, _), (54, _, _)], bx := [((.l 18), _), ((.l 37), _)], ow := [] }) (sub_mk (⟨sx rfl, ⟨sx rfl, ⟨sx rfl, ⟨sx rfl, ⟨sx rfl, ⟨sx rfl, ⟨sx rfl, ⟨sx rfl, ⟨sx rfl, ⟨sx rfl, ⟨sx rfl, ⟨sx rfl, ⟨sx rfl, ⟨sx rfl, ⟨sx rfl, trivial⟩⟩⟩⟩⟩⟩⟩⟩⟩⟩⟩⟩⟩⟩⟩) (⟨sx rfl, ⟨sx rfl, trivial⟩⟩) trivial) ?_
            refine awp_region ?_
            refine al_pure rfl rfl rfl (pure_arith rfl rfl gU gU rfl (IntWalk.i64_in _ (by omega))) ?_
            refine al_pure rfl rfl rfl (pure_move rfl gU) ?_
            refine al_nil ?_
            refine ⟨b + 1, ?_, ?_, sub_mk (⟨⟨_, rfl, ?_⟩, ⟨sx rfl, ⟨sx rfl, ⟨sx rfl, ⟨sx rfl, ⟨sx rfl, ⟨sx rfl, ⟨sx rfl, ⟨sx rfl, ⟨sx rfl, ⟨sx rfl, ⟨sx rfl, ⟨sx rfl, ⟨sx rfl, ⟨sx rfl, trivial⟩⟩⟩⟩⟩⟩⟩⟩⟩⟩⟩⟩⟩⟩⟩) (⟨⟨_, rfl, ?_⟩, ⟨sx rfl, trivial⟩⟩) trivial⟩
            · omega
            · omega
            · rfl
            · refine arr_ext fun m _ => ?_
              unfold upd
              simp only [satI, part_step]
              split
              · rename_i q; subst q
                rw [part_at, sat_mul, sat_add]
              · rfl
          · try simp only [nn, Fd.rows_len, Fm.rows_len, arrR_len] at hc5
            have hc0 : c b = 0 := sat_zero.1 (by simp only [satI] at hc5; omega)
            refine awp_skip ?_
            refine awp_region ?_
            refine al_pure rfl rfl rfl (pure_arith rfl rfl gU gU rfl (IntWalk.i64_in _ (by omega))) ?_
            refine al_pure rfl rfl rfl (pure_move rfl gU) ?_
            refine al_nil ?_
            refine ⟨b + 1, ?_, ?_, sub_mk (⟨⟨_, rfl, ?_⟩, ⟨sx rfl, ⟨sx rfl, ⟨sx rfl, ⟨sx rfl, ⟨sx rfl, ⟨sx rfl, ⟨sx rfl, ⟨sx rfl, ⟨sx rfl, ⟨sx rfl, ⟨sx rfl, ⟨sx rfl, ⟨sx rfl, ⟨sx rfl, trivial⟩⟩⟩⟩⟩⟩⟩⟩⟩⟩⟩⟩⟩⟩⟩) (⟨⟨_, rfl, ?_⟩, ⟨sx rfl, trivial⟩⟩) trivial⟩
            · omega
            · omega
            · rfl
            · refine arr_ext fun m _ => ?_
              simp only [satI, part_step, hc0, Nat.mul_zero, Nat.add_zero]
              split
              · rename_i q; subst q
                rw [part_at]
              · rfl
        · try simp only [nn, Fd.rows_len, Fm.rows_len, arrR_len] at hc4
          refine awp_exit ?_
          repeat (first | refine thenS_exit ?_ | refine blockS_hit ?_ | refine blockS_miss rfl ?_)
          refine awp_region ?_
          refine al_pure rfl rfl rfl (pure_arith rfl rfl gU gU rfl (IntWalk.i64_in _ (by omega))) ?_
          refine al_pure rfl rfl rfl (pure_move rfl gU) ?_
          refine al_nil ?_
          refine ⟨a + 1, ?_, ?_, sub_mk (⟨⟨_, rfl, ?_⟩, ⟨sx rfl, ⟨sx rfl, ⟨sx rfl, ⟨sx rfl, ⟨sx rfl, ⟨sx rfl, ⟨sx rfl, ⟨sx rfl, ⟨sx rfl, trivial⟩⟩⟩⟩⟩⟩⟩⟩⟩⟩) (⟨⟨_, rfl, ?_⟩, ⟨sx rfl, trivial⟩⟩) trivial⟩
          · omega
          · omega
          · rfl
          · refine arr_ext fun m _ => ?_
            simp only [satI]
            rw [part_full (by omega)]
    · try simp only [nn, Fd.rows_len, Fm.rows_len, arrR_len] at hc2
      refine awp_exit ?_
      repeat (first | refine thenS_exit ?_ | refine blockS_hit ?_ | refine blockS_miss rfl ?_)
      refine awp_region ?_
      refine al_pure rfl rfl rfl (pure_move rfl gU) ?_
      refine al_pure rfl rfl rfl (pure_assign rfl gU) ?_
      refine al_nil ?_
      refine awp_region ?_
      refine al_sub (s := { t := [(0, _, _), (2, _, _), (7, _, _), (25, _, _), (26, _, _), (27, _, _)], bx := [((.l 37), _)], ow := [] }) (sub_mk (⟨sx rfl, ⟨sx rfl, ⟨sx rfl, ⟨sx rfl, ⟨sx rfl, ⟨sx rfl, trivial⟩⟩⟩⟩⟩⟩) (⟨sx rfl, trivial⟩) trivial) ?_
      refine al_rename 7 37 18 rfl rfl rfl rfl ?_
      refine al_sub (s := { t := [(0, _, _), (2, _, _), (7, _, _), (25, _, _), (26, _, _), (27, _, _)], bx := [((.l 18), _)], ow := [] }) (sub_mk (⟨sx rfl, ⟨sx rfl, ⟨sx rfl, ⟨sx rfl, ⟨sx rfl, ⟨sx rfl, trivial⟩⟩⟩⟩⟩⟩) (⟨sx rfl, trivial⟩) trivial) ?_
      refine al_pure rfl rfl rfl (pure_arith rfl rfl gU gU rfl (IntWalk.i64_in _ (by omega))) ?_
      refine al_pure rfl rfl rfl (pure_move rfl gU) ?_
      refine al_nil ?_
      refine ⟨(k + 1, conv x c), ?_, ?_, sub_mk (⟨⟨_, rfl, ?_⟩, ⟨⟨_, rfl, ?_⟩, ⟨sx rfl, ⟨sx rfl, ⟨sx rfl, ⟨sx rfl, trivial⟩⟩⟩⟩⟩⟩) (⟨⟨_, rfl, ?_⟩, trivial⟩) trivial⟩
      · exact ⟨by dsimp only; omega, hinv⟩
      · dsimp only; omega
      · rfl
      · rfl
      · refine arr_ext fun m _ => ?_
        simp only [satI]
        rw [pt_conv (by omega)]
  · try simp only [nn, Fd.rows_len, Fm.rows_len, arrR_len] at hc
    rw [List.drop_of_length_le (by omega), cntL] at hinv
    refine awp_exit ?_
    repeat (first | refine thenS_exit ?_ | refine blockS_hit ?_ | refine blockS_miss rfl ?_)
    refine awp_seq (awp_region ?_)
    refine al_freezeArr 7 18 rfl rfl (by first | omega | (simp at hh; omega)) rfl ?_
    refine al_pure rfl rfl rfl (pure_move rfl gU) ?_
    refine al_pure rfl rfl rfl (pure_assign rfl gU) ?_
    refine al_nil ?_
    refine awp_ret ?_
    repeat (first | refine tR ?_ | refine bR ?_)
    refine ret_ok rfl ?_ trivial
    rw [hinv]; rfl
theorem cntall0_spec (t : List Fm) (i : Int) (n : Nat) (ni : Int) (hni : ni = n) (hi : 0 ≤ i ∧ i < t.length) (hn : n ≤ 2000) (h : Plain1 (t.getD i.toNat default).fields) :
    Ctr sys 45 [xtab t, xi i, xi ni] [] (xua (satI (cnt0 t i)) (n + 1)) none [] :=
  all_gen t i n ni (fun _ _ => 0) hni hi h.len.2 hn fun k hk => counts_gen t _ n _ (h.ok k hk).1 hn (fun h5 => absurd h5 (h.ok k hk).2.1) fun h5 => absurd h5 (h.ok k hk).2.1
theorem cntall_spec (t : List Fm) (i : Int) (n : Nat) (ni : Int) (hni : ni = n) (hi : 0 ≤ i ∧ i < t.length) (hn : n ≤ 2000) (h : Fds t (t.getD i.toNat default).fields) :
    Ctr sys 45 [xtab t, xi i, xi ni] [] (xua (satI (cntT t i)) (n + 1)) none [] :=
  all_gen t i n ni (cnt0 t) hni hi h.len.2 hn fun k hk => counts_gen t _ n _ (h.ok k hk) hn
    (fun h5 m hm => cnt0_zero (h.nest k hk h5).2 m (by have := bnd0_small (t := t) (i := ((t.getD i.toNat default).fields.getD k default).n) (h.nest k hk h5).2; omega))
    fun h5 j hj ji hji => cntall0_spec t _ j ji hji (by have := (h.nest k hk h5).1; have := (h.ok k hk).n; omega) (by omega) (h.nest k hk h5).2
abbrev xie (p : Int × Int) : X := .tup [.c (.i .i64 p.1), .c (.i .i64 p.2)]
theorem cCount_spec (t : List Fm) (i n : Int) : Ctr sys 22 [xtab t, xi i, xi n] [] (xie (cntE t i n)) none [] := by
  have hb := boundsE_err t i
  have hM := M1_val
  have hlr := arrR_len .u64 (satI (cntT t i)) (n.toNat + 1)
  refine spec_intro Try.func22 rfl rfl rfl rfl rfl rfl ?_
  refine awp_seq (awp_region ?_)
  refine al_pure rfl rfl rfl (pure_assign rfl gU) ?_
  refine al_pure rfl rfl rfl (pure_assign rfl gU) ?_
  refine al_nil ?_
  refine awp_seq ?_
  refine awp_seq (awp_region ?_)
  refine al_pure rfl rfl rfl (pure_move rfl gU) ?_
  refine al_pure rfl rfl rfl (pure_move rfl gU) ?_
  refine al_call rfl rfl rfl rfl rfl rfl gU gU (fBounds_spec _ _) rfl ?_
  refine al_pure rfl rfl rfl (pure_move rfl gU) ?_
  refine al_pure rfl rfl rfl (pure_extract rfl gU rfl) ?_
  refine al_pure rfl rfl rfl (pure_extract rfl gU rfl) ?_
  refine al_pure rfl rfl rfl (pure_extract rfl gU rfl) ?_
  refine al_pure rfl rfl rfl (pure_assign rfl gU) ?_
  refine al_pure rfl rfl rfl (pure_assign rfl gU) ?_
  refine al_pure rfl rfl rfl (pure_assign rfl gU) ?_
  refine al_nil ?_
  refine awp_sub (s := { t := [(0, _, _), (1, _, _), (2, _, _), (10, _, _)], bx := [], ow := [] }) (sub_mk (⟨sx rfl, ⟨sx rfl, ⟨sx rfl, ⟨sx rfl, trivial⟩⟩⟩⟩) trivial trivial) ?_
  refine awp_seq (awp_region ?_)
  refine al_pure rfl rfl rfl (pure_move rfl gU) ?_
  refine al_pure rfl rfl rfl (pure_cmp rfl rfl gU gU rfl) ?_
  refine al_nil ?_
  refine awp_cond rfl (fun hc => ?_) (fun hc => ?_)
  · try simp only [nn, Fd.rows_len, Fm.rows_len, arrR_len] at hc
    refine awp_seq (awp_region ?_)
    refine al_pure rfl rfl rfl (pure_move rfl gU) ?_
    refine al_pure rfl rfl rfl (pure_assign rfl gU) ?_
    refine al_pure rfl rfl rfl (pure_assign rfl gU) ?_
    refine al_nil ?_
    refine awp_ret ?_
    repeat (first | refine tR ?_ | refine bR ?_)
    refine ret_ok rfl ?_ trivial
    (rw [cntE, if_pos (by omega), hb]; rfl)
  · try simp only [nn, Fd.rows_len, Fm.rows_len, arrR_len] at hc
    have he : errE t i = 0 := by omega
    rw [cntE, if_neg (by omega)]
    refine awp_skip ?_
    refine awp_seq ?_
    refine awp_seq (awp_region ?_)
    refine al_pure rfl rfl rfl (pure_move rfl gU) ?_
    refine al_pure rfl rfl rfl (pure_cmp rfl rfl gU gU rfl) ?_
    refine al_pure rfl rfl rfl (pure_move rfl gU) ?_
    refine al_pure rfl rfl rfl (pure_move rfl gU) ?_
    refine al_pure rfl rfl rfl (pure_cmp rfl rfl (fun hh => hh) gU rfl) ?_
    refine al_pure rfl rfl rfl (pure_or rfl rfl gU (fun _ hi => gP rfl hi)) ?_
    refine al_nil ?_
    refine awp_sub (s := { t := [(0, _, _), (1, _, _), (2, _, _), (27, _, _)], bx := [], ow := [] }) (sub_mk (⟨sx rfl, ⟨sx rfl, ⟨sx rfl, ⟨sx rfl, trivial⟩⟩⟩⟩) trivial trivial) ?_
    refine awp_cond rfl (fun hc2 => ?_) (fun hc2 => ?_)
    · try simp only [nn, Fd.rows_len, Fm.rows_len, arrR_len] at hc2
      refine awp_seq (awp_region ?_)
      refine al_pure rfl rfl rfl (pure_assign rfl gU) ?_
      refine al_pure rfl rfl rfl (pure_assign rfl gU) ?_
      refine al_nil ?_
      refine awp_ret ?_
      repeat (first | refine tR ?_ | refine bR ?_)
      refine ret_ok rfl ?_ trivial
      (rw [if_pos (by omega)]; rfl)
    · try simp only [nn, Fd.rows_len, Fm.rows_len, arrR_len] at hc2
      rw [if_neg (by omega)]
      have hs : sat (cntT t i n.toNat) ≤ M1 := sat_le _
      refine awp_skip ?_
      refine awp_seq (awp_region ?_)
      refine al_pure rfl rfl rfl (pure_move rfl gU) ?_
      refine al_pure rfl rfl rfl (pure_move rfl gU) ?_
      refine al_pure rfl rfl rfl (pure_move rfl gU) ?_
      refine al_call rfl rfl rfl rfl rfl rfl gU gU (cntall_spec t i n.toNat n (by omega) (errE_fds he).1 (by omega) (errE_fds he).2) rfl ?_
      refine al_pure rfl rfl rfl (pure_move rfl gU) ?_
      refine al_pure rfl rfl rfl (pure_indexAddr (j := n.toNat) rfl rfl gU gU rfl rfl (by first | omega | (simp at hh; omega)) (fun hh => arrR_at (by first | omega | (simp at hh; omega)))) ?_
      refine al_pure rfl rfl rfl (pure_loadRo rfl gU rfl rfl rfl) ?_
      refine al_pure rfl rfl rfl (pure_assign rfl gU) ?_
      refine al_nil ?_
      refine awp_sub (s := { t := [(11, _, _)], bx := [], ow := [] }) (sub_mk (⟨sx rfl, trivial⟩) trivial trivial) ?_
      refine awp_seq ?_
      refine awp_seq (awp_region ?_)
      refine al_pure rfl rfl rfl (pure_move rfl gU) ?_
      refine al_pure rfl rfl rfl (pure_cmp rfl rfl gU gU rfl) ?_
      refine al_nil ?_
      refine awp_cond rfl (fun hc3 => ?_) (fun hc3 => ?_)
      · try simp only [nn, Fd.rows_len, Fm.rows_len, arrR_len] at hc3
        have : M1 ≤ cntT t i n.toNat := by simp only [satI] at hc3; unfold sat at hc3; omega
        refine awp_seq (awp_region ?_)
        refine al_pure rfl rfl rfl (pure_assign rfl gU) ?_
        refine al_pure rfl rfl rfl (pure_assign rfl gU) ?_
        refine al_nil ?_
        refine awp_ret ?_
        repeat (first | refine tR ?_ | refine bR ?_)
        refine ret_ok rfl ?_ trivial
        (rw [if_pos this]; rfl)
      · try simp only [nn, Fd.rows_len, Fm.rows_len, arrR_len] at hc3
        have : ¬ M1 ≤ cntT t i n.toNat := by simp only [satI] at hc3; unfold sat at hc3; omega
        have hsv : sat (cntT t i n.toNat) = cntT t i n.toNat := sat_of (by omega)
        have hq : satI (cntT t i) n.toNat = ((cntT t i n.toNat : Nat) : Int) := congrArg (fun z : Nat => (z : Int)) hsv
        refine awp_skip ?_
        refine awp_seq (awp_region ?_)
        refine al_pure rfl rfl rfl (pure_move rfl gU) ?_
        refine al_pure rfl rfl rfl (pure_convInt rfl gU ⟨_, Try.underlying77⟩ (Try.underlying2) (IntWalk.i64_in _ (by omega))) ?_
        refine al_pure rfl rfl rfl (pure_assign rfl gU) ?_
        refine al_pure rfl rfl rfl (pure_assign rfl gU) ?_
        refine al_nil ?_
        refine awp_ret ?_
        repeat (first | refine tR ?_ | refine bR ?_)
        refine ret_ok rfl ?_ trivial
        (rw [if_neg this, ← hsv]; rfl)
end Go.Proofs.Ytgjclggjkhapfaa
/- Contracts: numbers of strings, as the reference counts. -/
set_option linter.unusedVariables false
set_option linter.unusedSimpArgs false
namespace Go.Proofs.Ytgjclggjkhapfaa
open Go Go.Abs
theorem plus_spec (a b : Nat) (ha : a ≤ M1) (hb : b ≤ M1) (ai bi : Int) (hai : ai = a) (hbi : bi = b) : Ctr sys 71 [xi ai, xi bi] [] (xi (sat (a + b) : Nat)) none [] := by
  subst hai; subst hbi
  have hM := M1_val
  refine spec_intro Try.func71 rfl rfl rfl rfl rfl rfl ?_
  refine awp_seq (awp_region ?_)
  refine al_pure rfl rfl rfl (pure_assign rfl gU) ?_
  refine al_nil ?_
  refine awp_seq ?_
  refine awp_seq (awp_region ?_)
  refine al_pure rfl rfl rfl (pure_move rfl gU) ?_
  refine al_pure rfl rfl rfl (pure_move rfl gU) ?_
  refine al_pure rfl rfl rfl (pure_arith rfl rfl gU gU rfl (IntWalk.i64_in _ (by omega))) ?_
  refine al_pure rfl rfl rfl (pure_cmp rfl rfl gU gU rfl) ?_
  refine al_nil ?_
  refine awp_sub (s := { t := [(0, _, _), (1, _, _), (8, _, _)], bx := [], ow := [] }) (sub_mk (⟨sx rfl, ⟨sx rfl, ⟨sx rfl, trivial⟩⟩⟩) trivial trivial) ?_
  refine awp_cond rfl (fun hc1 => ?_) (fun hc1 => ?_)
  · try simp only [nn, Fd.rows_len, Fm.rows_len, arrR_len] at hc1
    refine awp_seq (awp_region ?_)
    refine al_pure rfl rfl rfl (pure_assign rfl gU) ?_
    refine al_nil ?_
    refine awp_ret ?_
    repeat (first | refine tR ?_ | refine bR ?_)
    refine ret_ok rfl ?_ trivial
    exact xi_eq (by unfold sat; omega)
  · try simp only [nn, Fd.rows_len, Fm.rows_len, arrR_len] at hc1
    refine awp_skip ?_
    refine awp_seq (awp_region ?_)
    refine al_pure rfl rfl rfl (pure_move rfl gU) ?_
    refine al_pure rfl rfl rfl (pure_move rfl gU) ?_
    refine al_pure rfl rfl rfl (pure_arith rfl rfl gU gU rfl (IntWalk.i64_in _ (by omega))) ?_
    refine al_pure rfl rfl rfl (pure_assign rfl gU) ?_
    refine al_nil ?_
    refine awp_ret ?_
    repeat (first | refine tR ?_ | refine bR ?_)
    refine ret_ok rfl ?_ trivial
    exact xi_eq (by unfold sat; omega)
theorem quo_bd {m n : Int} (hm : 0 ≤ m) (hn : 0 ≤ n) : 0 ≤ m / n ∧ m / n ≤ m := ⟨Int.ediv_nonneg hm hn, Int.ediv_le_self n hm⟩
theorem quo_lt {a b M : Nat} (ha : 0 < a) : M / a < b ↔ M < a * b := by
  rw [Nat.div_lt_iff_lt_mul ha, Nat.mul_comm]
theorem times_spec (a b : Nat) (ha : a ≤ M1) (hb : b ≤ M1) (ai bi : Int) (hai : ai = a) (hbi : bi = b) : Ctr sys 72 [xi ai, xi bi] [] (xi (sat (a * b) : Nat)) none [] := by
  subst hai; subst hbi
  have hM := M1_val
  have hd : ((4611686018427387904 : Nat) : Int) / (a : Int) = ((4611686018427387904 / a : Nat) : Int) := (Int.natCast_ediv _ _).symm
  have hd2 : (4611686018427387904 : Int) / (a : Int) = ((4611686018427387904 / a : Nat) : Int) := hd
  have hdl : 4611686018427387904 / a ≤ 4611686018427387904 := Nat.div_le_self _ _
  refine spec_intro Try.func72 rfl rfl rfl rfl rfl rfl ?_
  refine awp_seq (awp_region ?_)
  refine al_pure rfl rfl rfl (pure_assign rfl gU) ?_
  refine al_nil ?_
  refine awp_seq ?_
  refine awp_seq (awp_region ?_)
  refine al_pure rfl rfl rfl (pure_move rfl gU) ?_
  refine al_pure rfl rfl rfl (pure_cmp rfl rfl gU gU rfl) ?_
  refine al_pure rfl rfl rfl (pure_move rfl gU) ?_
  refine al_pure rfl rfl rfl (pure_move rfl gU) ?_
  refine al_pure rfl rfl rfl (pure_move rfl gU) ?_
  refine al_pure rfl rfl rfl (pure_quoG rfl rfl gU (fun hh => hh) (fun hh => by first | omega | (simp at hh; omega)) (fun hh => (congrArg IntKind.i64.wrap (Int.tdiv_eq_ediv_of_nonneg (by first | omega | (simp at hh; omega)))).trans (IntWalk.i64_in _ (by have hq := quo_bd (m := 4611686018427387904) (n := (a : Int)) (by omega) (by omega); omega)))) ?_
  refine al_pure rfl rfl rfl (pure_cmp rfl rfl (fun hh => hh) (fun hh => hh) rfl) ?_
  refine al_pure rfl rfl rfl (pure_and rfl rfl gU (fun _ hi => gP rfl hi)) ?_
  refine al_nil ?_
  refine awp_sub (s := { t := [(0, _, _), (1, _, _), (12, _, _)], bx := [], ow := [] }) (sub_mk (⟨sx rfl, ⟨sx rfl, ⟨sx rfl, trivial⟩⟩⟩) trivial trivial) ?_
  refine awp_cond rfl (fun hc => ?_) (fun hc => ?_)
  · try simp only [nn, Fd.rows_len, Fm.rows_len, arrR_len] at hc
    have h1 : 4611686018427387904 < a * b := (quo_lt (by omega)).1 (by omega)
    refine awp_seq (awp_region ?_)
    refine al_pure rfl rfl rfl (pure_assign rfl gU) ?_
    refine al_nil ?_
    refine awp_ret ?_
    repeat (first | refine tR ?_ | refine bR ?_)
    refine ret_ok rfl ?_ trivial
    exact xi_eq (by rw [sat_top (by omega)]; rfl)
  · try simp only [nn, Fd.rows_len, Fm.rows_len, arrR_len] at hc
    have h1 : a * b ≤ 4611686018427387904 := by
      by_cases h0 : a = 0
      · subst h0; omega
      · have hq := @quo_lt a b 4611686018427387904 (by omega)
        have h3 : ¬ 4611686018427387904 / a < b := by omega
        have h4 : ¬ 4611686018427387904 < a * b := fun h => h3 (hq.2 h)
        omega
    have h2 : (a : Int) * (b : Int) = ((a * b : Nat) : Int) := (Int.natCast_mul a b).symm
    refine awp_skip ?_
    refine awp_seq (awp_region ?_)
    refine al_pure rfl rfl rfl (pure_move rfl gU) ?_
    refine al_pure rfl rfl rfl (pure_move rfl gU) ?_
    refine al_pure rfl rfl rfl (pure_arith rfl rfl gU gU rfl (IntWalk.i64_in _ (by omega))) ?_
    refine al_pure rfl rfl rfl (pure_assign rfl gU) ?_
    refine al_nil ?_
    refine awp_ret ?_
    repeat (first | refine tR ?_ | refine bR ?_)
    refine ret_ok rfl ?_ trivial
    exact xi_eq (by rw [h2, sat_of (by omega)])
theorem rpower_spec (n : Nat) (ni : Int) (hn : ni = n) (hn2 : n ≤ 100000) : Ctr sys 97 [xi ni] [] (xi (sat (256 ^ n) : Nat)) none [] := by
  subst hn
  refine spec_intro Try.func97 rfl rfl rfl rfl rfl rfl ?_
  refine awp_seq (awp_region ?_)
  refine al_pure rfl rfl rfl (pure_assign rfl gU) ?_
  refine al_nil ?_
  refine awp_seq (awp_region ?_)
  refine al_pure rfl rfl rfl (pure_assign rfl gU) ?_
  refine al_nil ?_
  refine awp_seq ?_
  refine awp_seq (awp_region ?_)
  refine al_pure rfl rfl rfl (pure_assign rfl gU) ?_
  refine al_nil ?_
  refine awp_block ?_
  refine awp_for (ι := Nat) { t := [(0, _, _)], bx := [], ow := [] } (fun k => [(4, true, xi (k : Int)), (3, true, xi (sat (256 ^ k) : Nat))]) (fun k => []) (fun k => k ≤ n) (fun k => n - k) (0) (Nat.zero_le _) (sub_mk (⟨sx rfl, ⟨⟨_, rfl, tx (xi_eq (by simp only [satP0]))⟩, ⟨sx rfl, trivial⟩⟩⟩) trivial trivial) ?_
  intro k hok
  dsimp only [List.cons_append, List.nil_append]
  refine awp_seq ?_
  refine awp_seq (awp_region ?_)
  refine al_pure rfl rfl rfl (pure_move rfl gU) ?_
  refine al_pure rfl rfl rfl (pure_move rfl gU) ?_
  refine al_pure rfl rfl rfl (pure_cmp rfl rfl gU gU rfl) ?_
  refine al_nil ?_
  refine awp_cond rfl (fun hc => ?_) (fun hc => ?_)
  · try simp only [nn, Fd.rows_len, Fm.rows_len, arrR_len] at hc
    refine awp_skip ?_
    refine awp_seq ?_
    refine awp_block ?_
    refine awp_region ?_
    refine al_pure rfl rfl rfl (pure_move rfl gU) ?_
    refine al_call rfl rfl rfl rfl rfl rfl gU gU (times_spec _ 256 (sat_le _) le256 _ _ rfl rfl) rfl ?_
    refine al_pure rfl rfl rfl (pure_assign rfl gU) ?_
    refine al_nil ?_
    refine awp_sub (s := { t := [(0, _, _), (3, _, _), (4, _, _)], bx := [], ow := [] }) (sub_mk (⟨sx rfl, ⟨sx rfl, ⟨sx rfl, trivial⟩⟩⟩) trivial trivial) ?_
    refine awp_region ?_
    refine al_pure rfl rfl rfl (pure_move rfl gU) ?_
    refine al_pure rfl rfl rfl (pure_arith rfl rfl gU gU rfl (IntWalk.i64_in _ (by omega))) ?_
    refine al_pure rfl rfl rfl (pure_assign rfl gU) ?_
    refine al_nil ?_
    refine ⟨k + 1, ?_, ?_, sub_mk (⟨⟨_, rfl, ?_⟩, ⟨⟨_, rfl, ?_⟩, ⟨sx rfl, trivial⟩⟩⟩) trivial trivial⟩
    all_goals (first | omega | exact tx (xi_eq (by rw [pow_sat])) | exact tx (xi_eq (by omega)))
  · try simp only [nn, Fd.rows_len, Fm.rows_len, arrR_len] at hc
    have : k = n := by omega
    subst this
    refine awp_exit ?_
    repeat (first | refine thenS_exit ?_ | refine blockS_hit ?_ | refine blockS_miss rfl ?_)
    refine awp_seq (awp_region ?_)
    refine al_pure rfl rfl rfl (pure_move rfl gU) ?_
    refine al_pure rfl rfl rfl (pure_assign rfl gU) ?_
    refine al_nil ?_
    refine awp_ret ?_
    repeat (first | refine tR ?_ | refine bR ?_)
    refine ret_ok rfl ?_ trivial
    exact xi_eq rfl
def reachE (t : List Fm) (f : Fd) : Int := if f.kind = 6 then f.high else if f.kind = 5 then 1 + (boundsE t f.n).2.1 else 1 + f.n + f.bytes.length
theorem reach_spec (t : List Fm) (f : Fd) (hf : FdOk f) (hb : f.kind = 5 → 0 ≤ (boundsE t f.n).2.1 ∧ (boundsE t f.n).2.1 ≤ 100000) : Ctr sys 69 [xtab t, xf f] [] (xi (reachE t f)) none [] := by
  obtain ⟨hk, h1, h2, h3, h4, h5, h6⟩ := hf
  refine spec_intro Try.func69 rfl rfl rfl rfl rfl rfl ?_
  refine awp_seq (awp_region ?_)
  refine al_do rfl (does_box rfl rfl rfl rfl) ?_
  refine al_pure rfl rfl rfl (pure_assign rfl gU) ?_
  refine al_nil ?_
  refine awp_seq ?_
  refine awp_seq (awp_region ?_)
  refine al_pure rfl rfl rfl (pure_fieldPtr rfl gU rfl rfl) ?_
  refine al_pure rfl rfl rfl (pure_loadBox rfl gU rfl rfl rfl rfl) ?_
  refine al_nil ?_
  refine awp_block ?_
  refine awp_seq (awp_region ?_)
  refine al_pure rfl rfl rfl (pure_cmp rfl rfl gU gU rfl) ?_
  refine al_pure rfl rfl rfl (pure_assign rfl gU) ?_
  refine al_nil ?_
  refine awp_sub (s := { t := [(0, _, _), (3, _, _), (9, _, _), (10, _, _)], bx := [((.l 3), _)], ow := [] }) (sub_mk (⟨sx rfl, ⟨sx rfl, ⟨sx rfl, ⟨sx rfl, trivial⟩⟩⟩⟩) (⟨sx rfl, trivial⟩) trivial) ?_
  refine awp_cond rfl (fun hc => ?_) (fun hc => ?_)
  · try simp only [nn, Fd.rows_len, Fm.rows_len, arrR_len] at hc
    refine awp_seq (awp_region ?_)
    refine al_pure rfl rfl rfl (pure_fieldPtr rfl gU rfl rfl) ?_
    refine al_pure rfl rfl rfl (pure_loadBox rfl gU rfl rfl rfl rfl) ?_
    refine al_pure rfl rfl rfl (pure_assign rfl gU) ?_
    refine al_nil ?_
    refine awp_ret ?_
    repeat (first | refine tR ?_ | refine bR ?_)
    refine ret_ok rfl ?_ trivial
    exact xi_eq (by rw [reachE, if_pos hc])
  · try simp only [nn, Fd.rows_len, Fm.rows_len, arrR_len] at hc
    refine awp_seq (awp_region ?_)
    refine al_pure rfl rfl rfl (pure_cmp rfl rfl gU gU rfl) ?_
    refine al_pure rfl rfl rfl (pure_assign rfl gU) ?_
    refine al_nil ?_
    refine awp_cond rfl (fun hc2 => ?_) (fun hc2 => ?_)
    · try simp only [nn, Fd.rows_len, Fm.rows_len, arrR_len] at hc2
      have := hb hc2
      refine awp_seq (awp_region ?_)
      refine al_pure rfl rfl rfl (pure_move rfl gU) ?_
      refine al_pure rfl rfl rfl (pure_fieldPtr rfl gU rfl rfl) ?_
      refine al_pure rfl rfl rfl (pure_loadBox rfl gU rfl rfl rfl rfl) ?_
      refine al_call rfl rfl rfl rfl rfl rfl gU gU (rBounds_spec _ _) rfl ?_
      refine al_pure rfl rfl rfl (pure_move rfl gU) ?_
      refine al_pure rfl rfl rfl (pure_extract rfl gU rfl) ?_
      refine al_pure rfl rfl rfl (pure_extract rfl gU rfl) ?_
      refine al_pure rfl rfl rfl (pure_extract rfl gU rfl) ?_
      refine al_pure rfl rfl rfl (pure_assign rfl gU) ?_
      refine al_pure rfl rfl rfl (pure_assign rfl gU) ?_
      refine al_sub (s := { t := [(6, _, _), (23, _, _)], bx := [], ow := [] }) (sub_mk (⟨sx rfl, ⟨sx rfl, trivial⟩⟩) trivial trivial) ?_
      refine al_pure rfl rfl rfl (pure_assign rfl gU) ?_
      refine al_nil ?_
      refine awp_seq (awp_region ?_)
      refine al_pure rfl rfl rfl (pure_move rfl gU) ?_
      refine al_pure rfl rfl rfl (pure_arith rfl rfl gU gU rfl (IntWalk.i64_in _ (by omega))) ?_
      refine al_pure rfl rfl rfl (pure_assign rfl gU) ?_
      refine al_nil ?_
      refine awp_ret ?_
      repeat (first | refine tR ?_ | refine bR ?_)
      refine ret_ok rfl ?_ trivial
      exact xi_eq (by rw [reachE, if_neg hc, if_pos hc2])
    · try simp only [nn, Fd.rows_len, Fm.rows_len, arrR_len] at hc2
      refine awp_skip ?_
      refine awp_seq (awp_region ?_)
      refine al_pure rfl rfl rfl (pure_fieldPtr rfl gU rfl rfl) ?_
      refine al_pure rfl rfl rfl (pure_loadBox rfl gU rfl rfl rfl rfl) ?_
      refine al_pure rfl rfl rfl (pure_arith rfl rfl gU gU rfl (IntWalk.i64_in _ (by omega))) ?_
      refine al_pure rfl rfl rfl (pure_fieldPtr rfl gU rfl rfl) ?_
      refine al_pure rfl rfl rfl (pure_loadBox rfl gU rfl rfl rfl rfl) ?_
      refine al_lenS rfl rfl rfl rfl rfl gU (Try.underlying9) ?_ (fun hh => by simp at hh); intro hlen
      refine al_pure rfl rfl rfl (pure_arith rfl rfl gU gU rfl (IntWalk.i64_in _ (by omega))) ?_
      refine al_pure rfl rfl rfl (pure_assign rfl gU) ?_
      refine al_nil ?_
      refine awp_ret ?_
      repeat (first | refine tR ?_ | refine bR ?_)
      refine ret_ok rfl ?_ trivial
      exact xi_eq (by rw [reachE, if_neg hc, if_neg hc2])
theorem fcount_gen (t : List Fm) (f : Fd) (n : Nat) (ni : Int) (rec : Int → Nat → Nat) (hni : ni = n) (hf : FdOk f) (hn : n ≤ 2000) (hnt : f.kind = 5 → f.n < t.length)
    (hrec : f.kind = 5 → 1 ≤ n → ∀ ki : Int, ki = ((n - 1 : Nat) : Int) → Ctr sys 46 [xtab t, xfs (t.getD f.n.toNat default).fields, xi ki] [] (xi (satI (rec f.n) (n - 1))) none []) :
    Ctr sys 70 [xtab t, xf f, xi ni] [] (xi (satI (cntF rec f) n)) none [] := by
  subst hni
  obtain ⟨hk, hb, hn2, hl, hh, hlh, h4⟩ := hf
  have hrl := Fm.rows_len t
  have hM := M1_val
  have hs4 : sat (f.high - f.low + 1).toNat = (f.high - f.low + 1).toNat := sat_of (by omega)
  refine spec_intro Try.func70 rfl rfl rfl rfl rfl rfl ?_
  refine awp_seq (awp_region ?_)
  refine al_do rfl (does_box rfl rfl rfl rfl) ?_
  refine al_pure rfl rfl rfl (pure_assign rfl gU) ?_
  refine al_nil ?_
  refine awp_seq ?_
  refine awp_seq (awp_region ?_)
  refine al_pure rfl rfl rfl (pure_fieldPtr rfl gU rfl rfl) ?_
  refine al_pure rfl rfl rfl (pure_loadBox rfl gU rfl rfl rfl rfl) ?_
  refine al_nil ?_
  refine awp_block ?_
  refine awp_seq (awp_region ?_)
  refine al_pure rfl rfl rfl (pure_cmp rfl rfl gU gU rfl) ?_
  refine al_pure rfl rfl rfl (pure_assign rfl gU) ?_
  refine al_nil ?_
  refine awp_sub (s := { t := [(0, _, _), (2, _, _), (4, _, _), (8, _, _), (9, _, _)], bx := [((.l 4), _)], ow := [] }) (sub_mk (⟨sx rfl, ⟨sx rfl, ⟨sx rfl, ⟨sx rfl, ⟨sx rfl, trivial⟩⟩⟩⟩⟩) (⟨sx rfl, trivial⟩) trivial) ?_
  refine awp_cond rfl (fun hc => ?_) (fun hc => ?_)
  · try simp only [nn, Fd.rows_len, Fm.rows_len, arrR_len] at hc
    refine awp_seq (awp_region ?_)
    refine al_pure rfl rfl rfl (pure_move rfl gU) ?_
    refine al_pure rfl rfl rfl (pure_fieldPtr rfl gU rfl rfl) ?_
    refine al_pure rfl rfl rfl (pure_loadBox rfl gU rfl rfl rfl rfl) ?_
    refine al_lenS rfl rfl rfl rfl rfl gU (Try.underlying9) ?_ (fun hh => by simp at hh); intro hlen
    refine al_pure rfl rfl rfl (pure_cmp rfl rfl gU gU rfl) ?_
    refine al_nil ?_
    refine awp_sub (s := { t := [(15, _, _)], bx := [], ow := [] }) (sub_mk (⟨sx rfl, trivial⟩) trivial trivial) ?_
    refine awp_cond rfl (fun hc1 => ?_) (fun hc1 => ?_)
    · try simp only [nn, Fd.rows_len, Fm.rows_len, arrR_len] at hc1
      refine awp_seq (awp_region ?_)
      refine al_pure rfl rfl rfl (pure_assign rfl gU) ?_
      refine al_nil ?_
      refine awp_ret ?_
      repeat (first | refine tR ?_ | refine bR ?_)
      refine ret_ok rfl ?_ trivial
      exact xi_eq (by simp only [satI, cntF, if_pos hc]; first | (rw [if_pos (by omega)]; done) | (rw [if_pos (by omega)]; exact satI1.symm) | (rw [if_pos (by omega)]; omega) | (rw [if_neg (by omega)]; exact satI0.symm))
    · try simp only [nn, Fd.rows_len, Fm.rows_len, arrR_len] at hc1
      refine awp_skip ?_
      refine awp_seq (awp_region ?_)
      refine al_pure rfl rfl rfl (pure_assign rfl gU) ?_
      refine al_nil ?_
      refine awp_ret ?_
      repeat (first | refine tR ?_ | refine bR ?_)
      refine ret_ok rfl ?_ trivial
      exact xi_eq (by simp only [satI, cntF, if_pos hc]; first | (rw [if_pos (by omega)]; done) | (rw [if_pos (by omega)]; exact satI1.symm) | (rw [if_pos (by omega)]; omega) | (rw [if_neg (by omega)]; exact satI0.symm))
  · try simp only [nn, Fd.rows_len, Fm.rows_len, arrR_len] at hc
    refine awp_seq (awp_region ?_)
    refine al_pure rfl rfl rfl (pure_cmp rfl rfl gU gU rfl) ?_
    refine al_pure rfl rfl rfl (pure_assign rfl gU) ?_
    refine al_nil ?_
    refine awp_cond rfl (fun hck2 => ?_) (fun hck2 => ?_)
    · try simp only [nn, Fd.rows_len, Fm.rows_len, arrR_len] at hck2
      refine awp_seq (awp_region ?_)
      refine al_pure rfl rfl rfl (pure_move rfl gU) ?_
      refine al_pure rfl rfl rfl (pure_fieldPtr rfl gU rfl rfl) ?_
      refine al_pure rfl rfl rfl (pure_loadBox rfl gU rfl rfl rfl rfl) ?_
      refine al_pure rfl rfl rfl (pure_cmp rfl rfl gU gU rfl) ?_
      refine al_nil ?_
      refine awp_sub (s := { t := [(2, _, _), (21, _, _)], bx := [], ow := [] }) (sub_mk (⟨sx rfl, ⟨sx rfl, trivial⟩⟩) trivial trivial) ?_
      refine awp_cond rfl (fun hc2 => ?_) (fun hc2 => ?_)
      · try simp only [nn, Fd.rows_len, Fm.rows_len, arrR_len] at hc2
        refine awp_seq (awp_region ?_)
        refine al_pure rfl rfl rfl (pure_move rfl gU) ?_
        refine al_call rfl rfl rfl rfl rfl rfl gU gU (rpower_spec _ _ rfl (by omega)) rfl ?_
        refine al_pure rfl rfl rfl (pure_assign rfl gU) ?_
        refine al_nil ?_
        refine awp_ret ?_
        repeat (first | refine tR ?_ | refine bR ?_)
        refine ret_ok rfl ?_ trivial
        exact xi_eq (by simp only [satI, cntF, if_neg hc, if_pos hck2]; first | (rw [if_pos (by omega)]; done) | (rw [if_pos (by omega)]; exact satI1.symm) | (rw [if_pos (by omega)]; omega) | (rw [if_neg (by omega)]; exact satI0.symm))
      · try simp only [nn, Fd.rows_len, Fm.rows_len, arrR_len] at hc2
        refine awp_skip ?_
        refine awp_seq (awp_region ?_)
        refine al_pure rfl rfl rfl (pure_assign rfl gU) ?_
        refine al_nil ?_
        refine awp_ret ?_
        repeat (first | refine tR ?_ | refine bR ?_)
        refine ret_ok rfl ?_ trivial
        exact xi_eq (by simp only [satI, cntF, if_neg hc, if_pos hck2]; first | (rw [if_pos (by omega)]; done) | (rw [if_pos (by omega)]; exact satI1.symm) | (rw [if_pos (by omega)]; omega) | (rw [if_neg (by omega)]; exact satI0.symm))
    · try simp only [nn, Fd.rows_len, Fm.rows_len, arrR_len] at hck2
      refine awp_seq (awp_region ?_)
      refine al_pure rfl rfl rfl (pure_cmp rfl rfl gU gU rfl) ?_
      refine al_pure rfl rfl rfl (pure_assign rfl gU) ?_
      refine al_nil ?_
      refine awp_cond rfl (fun hck3 => ?_) (fun hck3 => ?_)
      · try simp only [nn, Fd.rows_len, Fm.rows_len, arrR_len] at hck3
        refine awp_seq (awp_region ?_)
        refine al_pure rfl rfl rfl (pure_move rfl gU) ?_
        refine al_pure rfl rfl rfl (pure_cmp rfl rfl gU gU rfl) ?_
        refine al_pure rfl rfl rfl (pure_move rfl gU) ?_
        refine al_pure rfl rfl rfl (pure_move rfl gU) ?_
        refine al_pure rfl rfl rfl (pure_arith rfl rfl (fun hh => hh) gU rfl (IntWalk.i64_in _ (by omega))) ?_
        refine al_pure rfl rfl rfl (pure_fieldPtr rfl gU rfl rfl) ?_
        refine al_pure rfl rfl rfl (pure_loadBox rfl (fun hh => hh) rfl rfl rfl rfl) ?_
        refine al_pure rfl rfl rfl (pure_cmp rfl rfl (fun hh => hh) (fun hh => hh) rfl) ?_
        refine al_sub (s := { t := [(2, _, _), (28, _, _), (33, _, _)], bx := [], ow := [] }) (sub_mk (⟨sx rfl, ⟨sx rfl, ⟨sx rfl, trivial⟩⟩⟩) trivial trivial) ?_
        refine al_pure rfl rfl rfl (pure_and rfl rfl gU (fun _ hi => gP rfl hi)) ?_
        refine al_nil ?_
        refine awp_cond rfl (fun hc3 => ?_) (fun hc3 => ?_)
        · try simp only [nn, Fd.rows_len, Fm.rows_len, arrR_len] at hc3
          refine awp_seq (awp_region ?_)
          refine al_pure rfl rfl rfl (pure_move rfl gU) ?_
          refine al_pure rfl rfl rfl (pure_arith rfl rfl gU gU rfl (IntWalk.i64_in _ (by omega))) ?_
          refine al_call rfl rfl rfl rfl rfl rfl gU gU (rpower_spec (n - 1) _ (by omega) (by omega)) rfl ?_
          refine al_pure rfl rfl rfl (pure_assign rfl gU) ?_
          refine al_nil ?_
          refine awp_ret ?_
          repeat (first | refine tR ?_ | refine bR ?_)
          refine ret_ok rfl ?_ trivial
          exact xi_eq (by simp only [satI, cntF, if_neg hc, if_neg hck2, if_pos hck3]; first | (rw [if_pos (by omega)]; done) | (rw [if_pos (by omega)]; exact satI1.symm) | (rw [if_pos (by omega)]; omega) | (rw [if_neg (by omega)]; exact satI0.symm))
        · try simp only [nn, Fd.rows_len, Fm.rows_len, arrR_len] at hc3
          refine awp_skip ?_
          refine awp_seq (awp_region ?_)
          refine al_pure rfl rfl rfl (pure_assign rfl gU) ?_
          refine al_nil ?_
          refine awp_ret ?_
          repeat (first | refine tR ?_ | refine bR ?_)
          refine ret_ok rfl ?_ trivial
          exact xi_eq (by simp only [satI, cntF, if_neg hc, if_neg hck2, if_pos hck3]; first | (rw [if_pos (by omega)]; done) | (rw [if_pos (by omega)]; exact satI1.symm) | (rw [if_pos (by omega)]; omega) | (rw [if_neg (by omega)]; exact satI0.symm))
      · try simp only [nn, Fd.rows_len, Fm.rows_len, arrR_len] at hck3
        refine awp_seq (awp_region ?_)
        refine al_pure rfl rfl rfl (pure_cmp rfl rfl gU gU rfl) ?_
        refine al_pure rfl rfl rfl (pure_assign rfl gU) ?_
        refine al_nil ?_
        refine awp_sub (s := { t := [(0, _, _), (2, _, _), (4, _, _), (8, _, _), (38, _, _)], bx := [((.l 4), _)], ow := [] }) (sub_mk (⟨sx rfl, ⟨sx rfl, ⟨sx rfl, ⟨sx rfl, ⟨sx rfl, trivial⟩⟩⟩⟩⟩) (⟨sx rfl, trivial⟩) trivial) ?_
        refine awp_cond rfl (fun hck4 => ?_) (fun hck4 => ?_)
        · try simp only [nn, Fd.rows_len, Fm.rows_len, arrR_len] at hck4
          refine awp_seq (awp_region ?_)
          refine al_pure rfl rfl rfl (pure_move rfl gU) ?_
          refine al_pure rfl rfl rfl (pure_cmp rfl rfl gU gU rfl) ?_
          refine al_nil ?_
          refine awp_cond rfl (fun hc4 => ?_) (fun hc4 => ?_)
          · try simp only [nn, Fd.rows_len, Fm.rows_len, arrR_len] at hc4
            refine awp_seq (awp_region ?_)
            refine al_pure rfl rfl rfl (pure_fieldPtr rfl gU rfl rfl) ?_
            refine al_pure rfl rfl rfl (pure_loadBox rfl gU rfl rfl rfl rfl) ?_
            refine al_pure rfl rfl rfl (pure_fieldPtr rfl gU rfl rfl) ?_
            refine al_pure rfl rfl rfl (pure_loadBox rfl gU rfl rfl rfl rfl) ?_
            refine al_pure rfl rfl rfl (pure_arith rfl rfl gU gU rfl (IntWalk.i64_in _ (by omega))) ?_
            refine al_pure rfl rfl rfl (pure_arith rfl rfl gU gU rfl (IntWalk.i64_in _ (by omega))) ?_
            refine al_pure rfl rfl rfl (pure_assign rfl gU) ?_
            refine al_nil ?_
            refine awp_ret ?_
            repeat (first | refine tR ?_ | refine bR ?_)
            refine ret_ok rfl ?_ trivial
            exact xi_eq (by simp only [satI, cntF, if_neg hc, if_neg hck2, if_neg hck3, if_pos hck4]; first | (rw [if_pos (by omega)]; done) | (rw [if_pos (by omega)]; exact satI1.symm) | (rw [if_pos (by omega)]; omega) | (rw [if_neg (by omega)]; exact satI0.symm))
          · try simp only [nn, Fd.rows_len, Fm.rows_len, arrR_len] at hc4
            refine awp_skip ?_
            refine awp_seq (awp_region ?_)
            refine al_pure rfl rfl rfl (pure_assign rfl gU) ?_
            refine al_nil ?_
            refine awp_ret ?_
            repeat (first | refine tR ?_ | refine bR ?_)
            refine ret_ok rfl ?_ trivial
            exact xi_eq (by simp only [satI, cntF, if_neg hc, if_neg hck2, if_neg hck3, if_pos hck4]; first | (rw [if_pos (by omega)]; done) | (rw [if_pos (by omega)]; exact satI1.symm) | (rw [if_pos (by omega)]; omega) | (rw [if_neg (by omega)]; exact satI0.symm))
        · try simp only [nn, Fd.rows_len, Fm.rows_len, arrR_len] at hck4
          refine awp_seq (awp_region ?_)
          refine al_pure rfl rfl rfl (pure_cmp rfl rfl gU gU rfl) ?_
          refine al_pure rfl rfl rfl (pure_assign rfl gU) ?_
          refine al_nil ?_
          refine awp_cond rfl (fun hck5 => ?_) (fun hck5 => ?_)
          · try simp only [nn, Fd.rows_len, Fm.rows_len, arrR_len] at hck5
            have hnt5 := hnt hck5
            refine awp_seq (awp_region ?_)
            refine al_pure rfl rfl rfl (pure_move rfl gU) ?_
            refine al_pure rfl rfl rfl (pure_cmp rfl rfl gU gU rfl) ?_
            refine al_nil ?_
            refine awp_cond rfl (fun hc5 => ?_) (fun hc5 => ?_)
            · try simp only [nn, Fd.rows_len, Fm.rows_len, arrR_len] at hc5
              refine awp_seq (awp_region ?_)
              refine al_pure rfl rfl rfl (pure_move rfl gU) ?_
              refine al_pure rfl rfl rfl (pure_move rfl gU) ?_
              refine al_pure rfl rfl rfl (pure_fieldPtr rfl gU rfl rfl) ?_
              refine al_pure rfl rfl rfl (pure_loadBox rfl gU rfl rfl rfl rfl) ?_
              refine al_pure rfl rfl rfl (pure_indexAddr (j := f.n.toNat) rfl rfl gU gU rfl rfl (by first | omega | (simp at hh; omega)) (fun hh => Fm.rows_at (by first | omega | (simp at hh; omega)))) ?_
              refine al_pure rfl rfl rfl (pure_fieldRo rfl gU rfl rfl) ?_
              refine al_pure rfl rfl rfl (pure_loadRo rfl gU rfl rfl rfl) ?_
              refine al_pure rfl rfl rfl (pure_move rfl gU) ?_
              refine al_sub (s := { t := [(52, _, _), (58, _, _), (59, _, _)], bx := [], ow := [] }) (sub_mk (⟨sx rfl, ⟨sx rfl, ⟨sx rfl, trivial⟩⟩⟩) trivial trivial) ?_
              refine al_pure rfl rfl rfl (pure_arith rfl rfl gU gU rfl (IntWalk.i64_in _ (by omega))) ?_
              refine al_call rfl rfl rfl rfl rfl rfl gU gU (hrec hck5 (by omega) _ (by omega)) rfl ?_
              refine al_pure rfl rfl rfl (pure_assign rfl gU) ?_
              refine al_nil ?_
              refine awp_ret ?_
              repeat (first | refine tR ?_ | refine bR ?_)
              refine ret_ok rfl ?_ trivial
              exact xi_eq (by simp only [satI, cntF, if_neg hc, if_neg hck2, if_neg hck3, if_neg hck4, if_pos hck5]; first | (rw [if_pos (by omega)]; done) | (rw [if_pos (by omega)]; exact satI1.symm) | (rw [if_pos (by omega)]; omega) | (rw [if_neg (by omega)]; exact satI0.symm))
            · try simp only [nn, Fd.rows_len, Fm.rows_len, arrR_len] at hc5
              refine awp_skip ?_
              refine awp_seq (awp_region ?_)
              refine al_pure rfl rfl rfl (pure_assign rfl gU) ?_
              refine al_nil ?_
              refine awp_ret ?_
              repeat (first | refine tR ?_ | refine bR ?_)
              refine ret_ok rfl ?_ trivial
              exact xi_eq (by simp only [satI, cntF, if_neg hc, if_neg hck2, if_neg hck3, if_neg hck4, if_pos hck5]; first | (rw [if_pos (by omega)]; done) | (rw [if_pos (by omega)]; exact satI1.symm) | (rw [if_pos (by omega)]; omega) | (rw [if_neg (by omega)]; exact satI0.symm))
          · try simp only [nn, Fd.rows_len, Fm.rows_len, arrR_len] at hck5
            refine awp_seq (awp_region ?_)
            refine al_pure rfl rfl rfl (pure_cmp rfl rfl gU gU rfl) ?_
            refine al_pure rfl rfl rfl (pure_assign rfl gU) ?_
            refine al_nil ?_
            refine awp_cond rfl (fun hc6 => ?_) (fun hc6 => ?_)
            · try simp only [nn, Fd.rows_len, Fm.rows_len, arrR_len] at hc6
              refine awp_seq (awp_region ?_)
              refine al_pure rfl rfl rfl (pure_move rfl gU) ?_
              refine al_pure rfl rfl rfl (pure_fieldPtr rfl gU rfl rfl) ?_
              refine al_pure rfl rfl rfl (pure_loadBox rfl gU rfl rfl rfl rfl) ?_
              refine al_pure rfl rfl rfl (pure_cmp rfl rfl gU gU rfl) ?_
              refine al_pure rfl rfl rfl (pure_move rfl gU) ?_
              refine al_pure rfl rfl rfl (pure_move rfl gU) ?_
              refine al_pure rfl rfl rfl (pure_fieldPtr rfl gU rfl rfl) ?_
              refine al_pure rfl rfl rfl (pure_loadBox rfl (fun hh => hh) rfl rfl rfl rfl) ?_
              refine al_sub (s := { t := [(2, _, _), (68, _, _), (69, _, _), (71, _, _)], bx := [], ow := [] }) (sub_mk (⟨sx rfl, ⟨sx rfl, ⟨sx rfl, ⟨sx rfl, trivial⟩⟩⟩⟩) trivial trivial) ?_
              refine al_pure rfl rfl rfl (pure_cmp rfl rfl (fun hh => hh) (fun hh => hh) rfl) ?_
              refine al_pure rfl rfl rfl (pure_and rfl rfl gU (fun _ hi => gP rfl hi)) ?_
              refine al_nil ?_
              refine awp_cond rfl (fun hc7 => ?_) (fun hc7 => ?_)
              · try simp only [nn, Fd.rows_len, Fm.rows_len, arrR_len] at hc7
                refine awp_seq (awp_region ?_)
                refine al_pure rfl rfl rfl (pure_move rfl gU) ?_
                refine al_call rfl rfl rfl rfl rfl rfl gU gU (rpower_spec _ _ rfl (by omega)) rfl ?_
                refine al_pure rfl rfl rfl (pure_assign rfl gU) ?_
                refine al_nil ?_
                refine awp_ret ?_
                repeat (first | refine tR ?_ | refine bR ?_)
                refine ret_ok rfl ?_ trivial
                exact xi_eq (by simp only [satI, cntF, if_neg hc, if_neg hck2, if_neg hck3, if_neg hck4, if_neg hck5]; first | (rw [if_pos (by omega)]; done) | (rw [if_pos (by omega)]; exact satI1.symm) | (rw [if_pos (by omega)]; omega) | (rw [if_neg (by omega)]; exact satI0.symm))
              · try simp only [nn, Fd.rows_len, Fm.rows_len, arrR_len] at hc7
                refine awp_skip ?_
                refine awp_seq (awp_region ?_)
                refine al_pure rfl rfl rfl (pure_assign rfl gU) ?_
                refine al_nil ?_
                refine awp_ret ?_
                repeat (first | refine tR ?_ | refine bR ?_)
                refine ret_ok rfl ?_ trivial
                exact xi_eq (by simp only [satI, cntF, if_neg hc, if_neg hck2, if_neg hck3, if_neg hck4, if_neg hck5]; first | (rw [if_pos (by omega)]; done) | (rw [if_pos (by omega)]; exact satI1.symm) | (rw [if_pos (by omega)]; omega) | (rw [if_neg (by omega)]; exact satI0.symm))
            · try simp only [nn, Fd.rows_len, Fm.rows_len, arrR_len] at hc6
              refine awp_skip ?_
              refine awp_seq (awp_region ?_)
              refine al_pure rfl rfl rfl (pure_assign rfl gU) ?_
              refine al_nil ?_
              refine awp_ret ?_
              repeat (first | refine tR ?_ | refine bR ?_)
              refine ret_ok rfl ?_ trivial
              exact xi_eq (by simp only [satI, cntF, if_neg hc, if_neg hck2, if_neg hck3, if_neg hck4, if_neg hck5]; first | (rw [if_pos (by omega)]; done) | (rw [if_pos (by omega)]; exact satI1.symm) | (rw [if_pos (by omega)]; omega) | (rw [if_neg (by omega)]; exact satI0.symm))
end Go.Proofs.Ytgjclggjkhapfaa
/- Contracts: Count, as the reference counts. -/
set_option linter.unusedVariables false
set_option linter.unusedSimpArgs false
namespace Go.Proofs.Ytgjclggjkhapfaa
open Go Go.Abs
theorem upd0_one0' (n : Nat) : arr .i64 (upd (fun _ => 0) 0 1) (n + 1) = arr .i64 (satI one0) (n + 1) := by
  refine arr_ext fun m hm => ?_
  unfold upd satI one0
  split
  · exact satI1.symm
  · exact satI0.symm
theorem pt_tail {x c : Nat → Nat} {a m : Nat} (h : ∀ i, a ≤ i → c i = 0) : pt c x a m = conv c x m := by
  have key : ∀ k, pt c x (a + k) m = pt c x a m := by
    intro k
    induction k with
    | zero => rfl
    | succ k ih => rw [← Nat.add_assoc, pt_succ, ih, h (a + k) (by omega), Nat.zero_mul, ite_self, Nat.add_zero]
  rw [← key (m + 1)]
  exact pt_conv (by omega)
theorem fmtcount_gen (t : List Fm) (fs : List Fd) (n : Nat) (ni : Int) (rec : Int → Nat → Nat) (r : Fd → Int) (hni : ni = n) (hl : 1 ≤ fs.length ∧ fs.length ≤ 6) (hn : n ≤ 2000)
    (hr0 : ∀ k, k < fs.length → r (fs.getD k default) ≤ 200000)
    (hz : ∀ k, k < fs.length → ∀ m : Nat, r (fs.getD k default) < m → cntF rec (fs.getD k default) m = 0)
    (hreach : ∀ k, k < fs.length → Ctr sys 69 [xtab t, xf (fs.getD k default)] [] (xi (r (fs.getD k default))) none [])
    (hcnt : ∀ k, k < fs.length → ∀ w : Nat, w ≤ n → Ctr sys 70 [xtab t, xf (fs.getD k default), xi (w : Int)] [] (xi (satI (cntF rec (fs.getD k default)) w)) none []) :
    Ctr sys 46 [xtab t, xfs fs, xi ni] [] (xi (satI (cntL rec fs one0) n)) none [] := by
  subst hni
  have hrf := Fd.rows_len fs
  refine spec_intro Try.func46 rfl rfl rfl rfl rfl rfl ?_
  refine awp_seq (awp_region ?_)
  refine al_pure rfl rfl rfl (pure_assign rfl gU) ?_
  refine al_nil ?_
  refine awp_seq ?_
  refine awp_seq (awp_region ?_)
  refine al_pure rfl rfl rfl (pure_move rfl gU) ?_
  refine al_lenSl rfl rfl rfl rfl rfl gU rfl rfl ?_ (fun hh => by simp at hh); intro hlen
  refine al_pure rfl rfl rfl (pure_cmp rfl rfl gU gU rfl) ?_
  refine al_nil ?_
  refine awp_cond rfl (fun hc => ?_) (fun hc => ?_)
  · try simp only [nn, Fd.rows_len, Fm.rows_len, arrR_len] at hc
    exfalso; omega
  · try simp only [nn, Fd.rows_len, Fm.rows_len, arrR_len] at hc
    refine awp_skip ?_
    refine awp_seq (awp_region ?_)
    refine al_pure rfl rfl rfl (pure_move rfl gU) ?_
    refine al_pure rfl rfl rfl (pure_arith rfl rfl gU gU rfl (IntWalk.i64_in _ (by omega))) ?_
    refine al_do rfl (does_makeArr (n := n + 1) rfl rfl rfl rfl rfl rfl rfl rfl (by first | omega | (simp at hh; omega)) (by first | omega | (simp at hh; omega)) (by first | omega | (simp at hh; omega))) ?_
    refine al_pure rfl rfl rfl (pure_assign rfl gU) ?_
    refine al_nil ?_
    refine awp_sub (s := { t := [(0, _, _), (1, _, _), (2, _, _), (7, _, _)], bx := [((.l 21), _)], ow := [] }) (sub_mk (⟨sx rfl, ⟨sx rfl, ⟨sx rfl, ⟨sx rfl, trivial⟩⟩⟩⟩) (⟨sx rfl, trivial⟩) trivial) ?_
    refine awp_seq (awp_region ?_)
    refine al_pure rfl rfl rfl (pure_move rfl gU) ?_
    refine al_pure rfl rfl rfl (pure_indexMs (j := 0) rfl rfl gU gU rfl rfl (by first | rfl | first | omega | (simp at hh; omega)) (fun hh => by first | omega | (simp at hh; omega))) ?_
    refine al_do rfl (does_storeArr rfl rfl rfl rfl rfl (by first | omega | (simp at hh; omega)) rfl) ?_
    refine al_nil ?_
    refine awp_seq ?_
    refine awp_seq (awp_region ?_)
    refine al_pure rfl rfl rfl (pure_assign rfl gU) ?_
    refine al_nil ?_
    refine awp_block ?_
    refine awp_for (ι := Nat × (Nat → Nat)) { t := [(0, _, _), (1, _, _), (2, _, _)], bx := [], ow := [] } (fun p => [(8, true, xi (p.1 : Int)), (7, true, .v (.ms (.l 21) 1 0 (n + 1)))]) (fun p => [((.l 21), arr .i64 (satI p.2) (n + 1))]) (fun p => p.1 ≤ fs.length ∧ cntL rec (fs.drop p.1) p.2 = cntL rec fs one0) (fun p => fs.length - p.1) ((0, one0)) (⟨by simp, rfl⟩) (sub_mk (⟨sx rfl, ⟨sx rfl, ⟨sx rfl, ⟨sx rfl, ⟨sx rfl, trivial⟩⟩⟩⟩⟩) (⟨⟨_, rfl, upd0_one0' n⟩, trivial⟩) trivial) ?_
    intro p hok
    dsimp only [List.cons_append, List.nil_append] at *
    obtain ⟨k, x⟩ := p
    dsimp only at hok ⊢
    obtain ⟨hk, hinv⟩ := hok
    refine awp_seq ?_
    refine awp_seq (awp_region ?_)
    refine al_pure rfl rfl rfl (pure_move rfl gU) ?_
    refine al_pure rfl rfl rfl (pure_move rfl gU) ?_
    refine al_lenSl rfl rfl rfl rfl rfl gU rfl rfl ?_ (fun hh => by simp at hh); intro hlen
    refine al_pure rfl rfl rfl (pure_cmp rfl rfl gU gU rfl) ?_
    refine al_nil ?_
    refine awp_cond rfl (fun hca => ?_) (fun hca => ?_)
    · try simp only [nn, Fd.rows_len, Fm.rows_len, arrR_len] at hca
      rw [cntL_drop rec (by omega)] at hinv
      have hcn := hcnt k (by omega)
      have hrk := hr0 k (by omega)
      have hre := hreach k (by omega)
      have hzk := hz k (by omega)
      generalize cntF rec (fs.getD k default) = c at *
      generalize r (fs.getD k default) = R at *
      refine awp_skip ?_
      refine awp_seq ?_
      refine awp_block ?_
      refine awp_seq (awp_region ?_)
      refine al_pure rfl rfl rfl (pure_move rfl gU) ?_
      refine al_pure rfl rfl rfl (pure_arith rfl rfl gU gU rfl (IntWalk.i64_in _ (by omega))) ?_
      refine al_do rfl (does_makeArr (n := n + 1) rfl rfl rfl rfl rfl rfl rfl rfl (by first | omega | (simp at hh; omega)) (by first | omega | (simp at hh; omega)) (by first | omega | (simp at hh; omega))) ?_
      refine al_pure rfl rfl rfl (pure_assign rfl gU) ?_
      refine al_nil ?_
      refine awp_sub (s := { t := [(0, _, _), (1, _, _), (2, _, _), (7, _, _), (8, _, _), (9, _, _)], bx := [((.l 21), _), ((.l 32), _)], ow := [] }) (sub_mk (⟨sx rfl, ⟨sx rfl, ⟨sx rfl, ⟨sx rfl, ⟨sx rfl, ⟨sx rfl, trivial⟩⟩⟩⟩⟩⟩) (⟨sx rfl, ⟨sx rfl, trivial⟩⟩) trivial) ?_
      refine awp_seq (awp_region ?_)
      refine al_pure rfl rfl rfl (pure_move rfl gU) ?_
      refine al_pure rfl rfl rfl (pure_move rfl gU) ?_
      refine al_pure rfl rfl rfl (pure_move rfl gU) ?_
      refine al_pure rfl rfl rfl (pure_indexAddr rfl rfl gU gU rfl rfl rfl (fun hh => Fd.rows_at (by first | omega | (simp at hh; omega)))) ?_
      refine al_pure rfl rfl rfl (pure_loadRoRow rfl gU rfl rfl rfl rfl) ?_
      refine al_call rfl rfl rfl rfl rfl rfl gU gU (hre) rfl ?_
      refine al_pure rfl rfl rfl (pure_assign rfl gU) ?_
      refine al_nil ?_
      refine awp_sub (s := { t := [(0, _, _), (1, _, _), (2, _, _), (7, _, _), (8, _, _), (9, _, _), (10, _, _)], bx := [((.l 21), _), ((.l 32), _)], ow := [] }) (sub_mk (⟨sx rfl, ⟨sx rfl, ⟨sx rfl, ⟨sx rfl, ⟨sx rfl, ⟨sx rfl, ⟨sx rfl, trivial⟩⟩⟩⟩⟩⟩⟩) (⟨sx rfl, ⟨sx rfl, trivial⟩⟩) trivial) ?_
      refine awp_seq ?_
      refine awp_seq (awp_region ?_)
      refine al_pure rfl rfl rfl (pure_assign rfl gU) ?_
      refine al_nil ?_
      refine awp_block ?_
      refine awp_for (ι := Nat) { t := [(0, _, _), (1, _, _), (2, _, _), (7, _, _), (8, _, _), (9, _, _), (10, _, _)], bx := [((.l 21), _)], ow := [] } (fun w => [(11, true, xi (w : Int))]) (fun w => [((.l 32), arr .i64 (satI (pt c x w)) (n + 1))]) (fun w => w ≤ n + 1 ∧ ((w : Int) ≤ R + 1 ∨ w = 0)) (fun w => n + 1 - w) (0) (⟨by omega, .inr rfl⟩) (sub_mk (⟨sx rfl, ⟨sx rfl, ⟨sx rfl, ⟨sx rfl, ⟨sx rfl, ⟨sx rfl, ⟨sx rfl, ⟨sx rfl, trivial⟩⟩⟩⟩⟩⟩⟩⟩) (⟨⟨_, rfl, arr_ext fun m _ => by simp only [satI, pt_zero, satI0]⟩, ⟨sx rfl, trivial⟩⟩) trivial) ?_
      intro w hok2
      dsimp only [List.cons_append, List.nil_append]
      obtain ⟨hw1, hw2⟩ := hok2
      refine awp_seq ?_
      refine awp_seq (awp_region ?_)
      refine al_pure rfl rfl rfl (pure_move rfl gU) ?_
      refine al_pure rfl rfl rfl (pure_move rfl gU) ?_
      refine al_pure rfl rfl rfl (pure_cmp rfl rfl gU gU rfl) ?_
      refine al_pure rfl rfl rfl (pure_move rfl gU) ?_
      refine al_pure rfl rfl rfl (pure_move rfl gU) ?_
      refine al_pure rfl rfl rfl (pure_move rfl gU) ?_
      refine al_pure rfl rfl rfl (pure_cmp rfl rfl (fun hh => hh) (fun hh => hh) rfl) ?_
      refine al_pure rfl rfl rfl (pure_and rfl rfl gU (fun _ hi => gP rfl hi)) ?_
      refine al_nil ?_
      refine awp_sub (s := { t := [(0, _, _), (1, _, _), (2, _, _), (7, _, _), (8, _, _), (9, _, _), (10, _, _), (11, _, _), (46, _, _)], bx := [((.l 21), _), ((.l 32), _)], ow := [] }) (sub_mk (⟨sx rfl, ⟨sx rfl, ⟨sx rfl, ⟨sx rfl, ⟨sx rfl, ⟨sx rfl, ⟨sx rfl, ⟨sx rfl, ⟨sx rfl, trivial⟩⟩⟩⟩⟩⟩⟩⟩⟩) (⟨sx rfl, ⟨sx rfl, trivial⟩⟩) trivial) ?_
      refine awp_cond rfl (fun hcb => ?_) (fun hcb => ?_)
      · try simp only [nn, Fd.rows_len, Fm.rows_len, arrR_len] at hcb
        refine awp_skip ?_
        refine awp_seq ?_
        refine awp_block ?_
        refine awp_seq (awp_region ?_)
        refine al_pure rfl rfl rfl (pure_move rfl gU) ?_
        refine al_pure rfl rfl rfl (pure_move rfl gU) ?_
        refine al_pure rfl rfl rfl (pure_move rfl gU) ?_
        refine al_pure rfl rfl rfl (pure_indexAddr rfl rfl gU gU rfl rfl rfl (fun hh => Fd.rows_at (by first | omega | (simp at hh; omega)))) ?_
        refine al_pure rfl rfl rfl (pure_loadRoRow rfl gU rfl rfl rfl rfl) ?_
        refine al_pure rfl rfl rfl (pure_move rfl gU) ?_
        refine al_call rfl rfl rfl rfl rfl rfl gU gU (hcn w (by omega)) rfl ?_
        refine al_pure rfl rfl rfl (pure_assign rfl gU) ?_
        refine al_nil ?_
        refine awp_sub (s := { t := [(0, _, _), (1, _, _), (2, _, _), (7, _, _), (8, _, _), (9, _, _), (10, _, _), (11, _, _), (12, _, _)], bx := [((.l 21), _), ((.l 32), _)], ow := [] }) (sub_mk (⟨sx rfl, ⟨sx rfl, ⟨sx rfl, ⟨sx rfl, ⟨sx rfl, ⟨sx rfl, ⟨sx rfl, ⟨sx rfl, ⟨sx rfl, trivial⟩⟩⟩⟩⟩⟩⟩⟩⟩) (⟨sx rfl, ⟨sx rfl, trivial⟩⟩) trivial) ?_
        refine awp_seq (awp_region ?_)
        refine al_pure rfl rfl rfl (pure_assign rfl gU) ?_
        refine al_nil ?_
        refine awp_block ?_
        refine awp_for (ι := Nat) { t := [(0, _, _), (1, _, _), (2, _, _), (7, _, _), (8, _, _), (9, _, _), (10, _, _), (11, _, _), (12, _, _)], bx := [((.l 21), _)], ow := [] } (fun j => [(13, true, xi (j : Int))]) (fun j => [((.l 32), arr .i64 (satI (part c x w j)) (n + 1))]) (fun j => j ≤ n + 1 - w) (fun j => n + 1 - w - j) (0) (by omega) (sub_mk (⟨sx rfl, ⟨sx rfl, ⟨sx rfl, ⟨sx rfl, ⟨sx rfl, ⟨sx rfl, ⟨sx rfl, ⟨sx rfl, ⟨sx rfl, ⟨sx rfl, trivial⟩⟩⟩⟩⟩⟩⟩⟩⟩⟩) (⟨⟨_, rfl, arr_ext fun m _ => by simp only [satI, part_zero]⟩, ⟨sx rfl, trivial⟩⟩) trivial) ?_
        intro j hok3
        dsimp only [List.cons_append, List.nil_append]
        refine awp_seq ?_
        refine awp_seq (awp_region ?_)
        refine al_pure rfl rfl rfl (pure_move rfl gU) ?_
        refine al_pure rfl rfl rfl (pure_move rfl gU) ?_
        refine al_pure rfl rfl rfl (pure_arith rfl rfl gU gU rfl (IntWalk.i64_in _ (by omega))) ?_
        refine al_pure rfl rfl rfl (pure_move rfl gU) ?_
        refine al_pure rfl rfl rfl (pure_cmp rfl rfl gU gU rfl) ?_
        refine al_pure rfl rfl rfl (pure_move rfl gU) ?_
        refine al_pure rfl rfl rfl (pure_move rfl gU) ?_
        refine al_pure rfl rfl rfl (pure_cmp rfl rfl (fun hh => hh) gU rfl) ?_
        refine al_pure rfl rfl rfl (pure_and rfl rfl gU (fun _ hi => gP rfl hi)) ?_
        refine al_nil ?_
        refine awp_sub (s := { t := [(0, _, _), (1, _, _), (2, _, _), (7, _, _), (8, _, _), (9, _, _), (10, _, _), (11, _, _), (12, _, _), (13, _, _), (64, _, _)], bx := [((.l 21), _), ((.l 32), _)], ow := [] }) (sub_mk (⟨sx rfl, ⟨sx rfl, ⟨sx rfl, ⟨sx rfl, ⟨sx rfl, ⟨sx rfl, ⟨sx rfl, ⟨sx rfl, ⟨sx rfl, ⟨sx rfl, ⟨sx rfl, trivial⟩⟩⟩⟩⟩⟩⟩⟩⟩⟩⟩) (⟨sx rfl, ⟨sx rfl, trivial⟩⟩) trivial) ?_
        refine awp_cond rfl (fun hcd => ?_) (fun hcd => ?_)
        · try simp only [nn, Fd.rows_len, Fm.rows_len, arrR_len] at hcd
          refine awp_skip ?_
          refine awp_seq ?_
          refine awp_block ?_
          refine awp_drawn' (by kernel_rfl) ?_
          refine dr_pure rfl rfl rfl rfl (pure_move rfl gU) ?_
          refine dr_pure rfl rfl rfl rfl (pure_move rfl gU) ?_
          refine dr_pure rfl rfl rfl rfl (pure_move rfl gU) ?_
          refine dr_pure rfl rfl rfl rfl (pure_arith rfl rfl gU gU rfl (IntWalk.i64_in _ (by omega))) ?_
          refine dr_pure rfl rfl rfl rfl (pure_move rfl gU) ?_
          refine dr_pure rfl rfl rfl rfl (pure_move rfl gU) ?_
          refine dr_pure rfl rfl rfl rfl (pure_move rfl gU) ?_
          refine dr_pure rfl rfl rfl rfl (pure_arith rfl rfl gU gU rfl (IntWalk.i64_in _ (by omega))) ?_
          refine dr_pure rfl rfl rfl rfl (pure_indexMs (j := w + j) rfl rfl gU gU rfl rfl (by first | rfl | first | omega | (simp at hh; omega)) (fun hh => by first | omega | (simp at hh; omega))) ?_
          refine dr_load rfl rfl rfl rfl rfl rfl rfl gU rfl rfl rfl (arr_at (by first | omega | (simp at hh; omega))) ?_
          refine dr_pure rfl rfl rfl rfl (pure_move rfl gU) ?_
          refine dr_pure rfl rfl rfl rfl (pure_move rfl gU) ?_
          refine dr_pure rfl rfl rfl rfl (pure_indexMs (j := j) rfl rfl gU gU rfl rfl (by first | rfl | first | omega | (simp at hh; omega)) (fun hh => by first | omega | (simp at hh; omega))) ?_
          refine dr_load rfl rfl rfl rfl rfl rfl rfl gU rfl rfl rfl (arr_at (by first | omega | (simp at hh; omega))) ?_
          refine dr_pure rfl rfl rfl rfl (pure_move rfl gU) ?_
          refine dr_callN rfl rfl rfl rfl rfl rfl rfl gU gU (times_spec (sat (x j)) (sat (c w)) (sat_le _) (sat_le _) _ _ rfl rfl) rfl ?_
          refine dr_callN rfl rfl rfl rfl rfl rfl rfl gU gU (plus_spec (sat (part c x w j (w + j))) (sat (sat (x j) * sat (c w))) (sat_le _) (sat_le _) _ _ rfl rfl) rfl ?_
          refine dr_pure rfl rfl rfl rfl (pure_indexMs (j := w + j) rfl rfl gU gU rfl rfl (by first | rfl | first | omega | (simp at hh; omega)) (fun hh => by first | omega | (simp at hh; omega))) ?_
          refine dr_storeArr rfl rfl rfl rfl rfl rfl rfl rfl rfl rfl (by first | omega | (simp at hh; omega)) rfl ?_
          refine dr_nil (by kernel_rfl) ?_
          refine awp_sub (s := { t := [(0, _, _), (1, _, _), (2, _, _), (7, _, _), (8, _, _), (9, _, _), (10, _, _), (11, _, _), (12, _, _), (13, _, _)], bx := [((.l 21), _), ((.l 32), _)], ow := [] }) (sub_mk (⟨sx rfl, ⟨sx rfl, ⟨sx rfl, ⟨sx rfl, ⟨sx rfl, ⟨sx rfl, ⟨sx rfl, ⟨sx rfl, ⟨sx rfl, ⟨sx rfl, trivial⟩⟩⟩⟩⟩⟩⟩⟩⟩⟩) (⟨sx rfl, ⟨sx rfl, trivial⟩⟩) trivial) ?_
          refine awp_region ?_
          refine al_pure rfl rfl rfl (pure_move rfl gU) ?_
          refine al_pure rfl rfl rfl (pure_arith rfl rfl gU gU rfl (IntWalk.i64_in _ (by omega))) ?_
          refine al_pure rfl rfl rfl (pure_assign rfl gU) ?_
          refine al_nil ?_
          refine ⟨j + 1, ?_, ?_, sub_mk (⟨⟨_, rfl, ?_⟩, ⟨sx rfl, ⟨sx rfl, ⟨sx rfl, ⟨sx rfl, ⟨sx rfl, ⟨sx rfl, ⟨sx rfl, ⟨sx rfl, ⟨sx rfl, trivial⟩⟩⟩⟩⟩⟩⟩⟩⟩⟩) (⟨⟨_, rfl, ?_⟩, ⟨sx rfl, trivial⟩⟩) trivial⟩
          · omega
          · omega
          · rfl
          · refine arr_ext fun m _ => ?_
            unfold upd
            simp only [satI, part_step]
            split
            · rename_i q; subst q
              rw [part_at, sat_mul, sat_add, Nat.mul_comm]
            · rfl
        · try simp only [nn, Fd.rows_len, Fm.rows_len, arrR_len] at hcd
          have hend : ∀ m, m < n + 1 → part c x w j m = pt c x (w + 1) m := by
            intro m hm
            by_cases hj : n < j + w
            · exact part_full (by omega)
            · have hc0 : c w = 0 := sat_zero.1 (by simp only [satI] at hcd; omega)
              unfold part
              rw [pt_succ, hc0]
              simp
          refine awp_exit ?_
          repeat (first | refine thenS_exit ?_ | refine blockS_hit ?_ | refine blockS_miss rfl ?_)
          refine awp_region ?_
          refine al_pure rfl rfl rfl (pure_move rfl gU) ?_
          refine al_pure rfl rfl rfl (pure_arith rfl rfl gU gU rfl (IntWalk.i64_in _ (by omega))) ?_
          refine al_pure rfl rfl rfl (pure_assign rfl gU) ?_
          refine al_nil ?_
          refine ⟨w + 1, ?_, ?_, sub_mk (⟨⟨_, rfl, ?_⟩, ⟨sx rfl, ⟨sx rfl, ⟨sx rfl, ⟨sx rfl, ⟨sx rfl, ⟨sx rfl, ⟨sx rfl, trivial⟩⟩⟩⟩⟩⟩⟩⟩) (⟨⟨_, rfl, ?_⟩, ⟨sx rfl, trivial⟩⟩) trivial⟩
          · omega
          · omega
          · rfl
          · refine arr_ext fun m hm => ?_
            simp only [satI]
            rw [hend m hm]
      · try simp only [nn, Fd.rows_len, Fm.rows_len, arrR_len] at hcb
        have hend : ∀ m, m < n + 1 → pt c x w m = conv x c m := by
          intro m hm
          rw [conv_comm]
          by_cases hw : w = n + 1
          · exact pt_conv (by omega)
          · exact pt_tail fun i hi => hzk i (by omega)
        refine awp_exit ?_
        repeat (first | refine thenS_exit ?_ | refine blockS_hit ?_ | refine blockS_miss rfl ?_)
        refine awp_region ?_
        refine al_pure rfl rfl rfl (pure_move rfl gU) ?_
        refine al_pure rfl rfl rfl (pure_assign rfl gU) ?_
        refine al_nil ?_
        refine awp_region ?_
        refine al_sub (s := { t := [(0, _, _), (1, _, _), (2, _, _), (7, _, _), (8, _, _)], bx := [((.l 32), _)], ow := [] }) (sub_mk (⟨sx rfl, ⟨sx rfl, ⟨sx rfl, ⟨sx rfl, ⟨sx rfl, trivial⟩⟩⟩⟩⟩) (⟨sx rfl, trivial⟩) trivial) ?_
        refine al_rename 7 32 21 rfl rfl rfl rfl ?_
        refine al_sub (s := { t := [(0, _, _), (1, _, _), (2, _, _), (7, _, _), (8, _, _)], bx := [((.l 21), _)], ow := [] }) (sub_mk (⟨sx rfl, ⟨sx rfl, ⟨sx rfl, ⟨sx rfl, ⟨sx rfl, trivial⟩⟩⟩⟩⟩) (⟨sx rfl, trivial⟩) trivial) ?_
        refine al_pure rfl rfl rfl (pure_move rfl gU) ?_
        refine al_pure rfl rfl rfl (pure_arith rfl rfl gU gU rfl (IntWalk.i64_in _ (by omega))) ?_
        refine al_pure rfl rfl rfl (pure_assign rfl gU) ?_
        refine al_nil ?_
        refine ⟨(k + 1, conv x c), ?_, ?_, sub_mk (⟨⟨_, rfl, ?_⟩, ⟨⟨_, rfl, ?_⟩, ⟨sx rfl, ⟨sx rfl, ⟨sx rfl, trivial⟩⟩⟩⟩⟩) (⟨⟨_, rfl, ?_⟩, trivial⟩) trivial⟩
        · exact ⟨by dsimp only; omega, hinv⟩
        · dsimp only; omega
        · rfl
        · rfl
        · refine arr_ext fun m hm => ?_
          simp only [satI]
          rw [hend m hm]
    · try simp only [nn, Fd.rows_len, Fm.rows_len, arrR_len] at hca
      rw [List.drop_of_length_le (by omega), cntL] at hinv
      refine awp_exit ?_
      repeat (first | refine thenS_exit ?_ | refine blockS_hit ?_ | refine blockS_miss rfl ?_)
      refine awp_seq (awp_region ?_)
      refine al_pure rfl rfl rfl (pure_move rfl gU) ?_
      refine al_pure rfl rfl rfl (pure_move rfl gU) ?_
      refine al_pure rfl rfl rfl (pure_indexMs (j := n) rfl rfl gU gU rfl rfl (by first | rfl | first | omega | (simp at hh; omega)) (fun hh => by first | omega | (simp at hh; omega))) ?_
      refine al_pure rfl rfl rfl (pure_loadBox rfl gU rfl rfl rfl (arr_at (by first | omega | (simp at hh; omega)))) ?_
      refine al_pure rfl rfl rfl (pure_assign rfl gU) ?_
      refine al_nil ?_
      refine awp_ret ?_
      repeat (first | refine tR ?_ | refine bR ?_)
      refine ret_ok rfl ?_ trivial
      rw [hinv]; rfl
theorem boundsE_zero {t : List Fm} {i : Int} (h : errE t i = 0) : (boundsE t i).1 = (bndT t i).1 ∧ (boundsE t i).2.1 = (bndT t i).2 := by
  rw [boundsE, if_neg (by omega)]; exact ⟨rfl, rfl⟩
theorem bndL_plain {r r' : Int → Int × Int} : ∀ {l : List Fd}, (∀ k, k < l.length → (l.getD k default).kind ≠ 5) → bndL r l = bndL r' l
  | [], _ => rfl
  | f :: l, h => by
    have h0 := h 0 (by simp)
    simp only [List.getD_cons_zero] at h0
    rw [bndL, bndL, bndL_plain fun k hk => by have := h (k + 1) (by simpa using hk); simpa using this, bndF_eq h0, bndF_eq h0]
/-- The bounds of a nested format. -/
theorem bnd_nest {t : List Fm} {n : Int} (hp : Plain1 (t.getD n.toNat default).fields) : bndT t n = bnd0 t n := bndL_plain fun k hk => (hp.ok k hk).2.1
theorem reach_bnd {t : List Fm} {f : Fd} (hf : FdOk f) (h5 : f.kind = 5 → (boundsE t f.n).2.1 = (bnd0 t f.n).2) : (bndF (bnd0 t) f).2 ≤ reachE t f := by
  obtain ⟨hk, h1, h2, h3, h4, _, h6⟩ := hf
  obtain ⟨c1, c2, c3, c4, c5, c6⟩ := bndF_cases (bnd0 t) f
  unfold reachE
  obtain k | k | k | k | k | k : f.kind = 1 ∨ f.kind = 2 ∨ f.kind = 3 ∨ f.kind = 4 ∨ f.kind = 5 ∨ f.kind = 6 := by omega
  · rw [if_neg (by omega), if_neg (by omega)]; have := c1 k; omega
  · rw [if_neg (by omega), if_neg (by omega)]; have := c2 k; omega
  · rw [if_neg (by omega), if_neg (by omega)]; have := c3 k; omega
  · rw [if_neg (by omega), if_neg (by omega)]; have := c4 k; omega
  · rw [if_neg (by omega), if_pos k]; have := c5 k; have := h5 k; omega
  · rw [if_pos k]; have := c6 k; omega
theorem fmtcount0_spec (t : List Fm) (fs : List Fd) (n : Nat) (ni : Int) (hni : ni = n) (hn : n ≤ 2000) (h : Plain1 fs) : Ctr sys 46 [xtab t, xfs fs, xi ni] [] (xi (satI (cntL (fun _ _ => 0) fs one0) n)) none [] := by
  refine fmtcount_gen t fs n ni (fun _ _ => 0) (reachE t) hni h.len hn (fun k hk => ?_) (fun k hk m hm => ?_) (fun k hk => reach_spec t _ (h.ok k hk).1 fun h5 => absurd h5 (h.ok k hk).2.1) fun k hk w hw => fcount_gen t _ w _ _ rfl (h.ok k hk).1 (by omega) (fun h5 => absurd h5 (h.ok k hk).2.1) fun h5 => absurd h5 (h.ok k hk).2.1
  · obtain ⟨⟨_, h1, h2, h3, h4, _⟩, h5, h6⟩ := h.ok k hk
    unfold reachE; rw [if_neg h6, if_neg h5]; omega
  · refine cntF_zero (rb := bnd0 t) (h.ok k hk).1 (fun h5 => absurd h5 (h.ok k hk).2.1) m ?_
    have := reach_bnd (t := t) (h.ok k hk).1 fun h5 => absurd h5 (h.ok k hk).2.1
    omega
theorem fmtcount_spec (t : List Fm) (i : Int) (n : Nat) (ni : Int) (hni : ni = n) (hn : n ≤ 2000) (he : errE t i = 0) : Ctr sys 46 [xtab t, xfs (t.getD i.toNat default).fields, xi ni] [] (xi (satI (cntT t i) n)) none [] := by
  obtain ⟨hi, h⟩ := errE_fds he
  have hb : ∀ k, k < (t.getD i.toNat default).fields.length → ((t.getD i.toNat default).fields.getD k default).kind = 5 → (boundsE t ((t.getD i.toNat default).fields.getD k default).n).2.1 = (bnd0 t ((t.getD i.toNat default).fields.getD k default).n).2 := by
    intro k hk h5
    obtain ⟨q1, q2⟩ := h.nest k hk h5
    have q3 := (h.ok k hk).n
    have : errE t ((t.getD i.toNat default).fields.getD k default).n = 0 := by
      have hv : validE t = 0 := by
        unfold errE at he
        split at he
        · rename_i hh; exact absurd he hh
        · rename_i hh; exact Decidable.not_not.1 hh
      unfold errE
      rw [if_neg (by omega), if_neg (by omega)]
    rw [(boundsE_zero this).2, bnd_nest q2]
  have hr : ∀ k, k < (t.getD i.toNat default).fields.length → ((t.getD i.toNat default).fields.getD k default).kind = 5 → 0 ≤ (boundsE t ((t.getD i.toNat default).fields.getD k default).n).2.1 ∧ (boundsE t ((t.getD i.toNat default).fields.getD k default).n).2.1 ≤ 100000 := by
    intro k hk h5
    rw [hb k hk h5]
    have := (h.nest k hk h5).2.bndAll (rec := fun _ => (0, 0))
    unfold bnd0 fmAt; omega
  refine fmtcount_gen t _ n ni (cnt0 t) (reachE t) hni h.len hn (fun k hk => ?_) (fun k hk m hm => ?_) (fun k hk => reach_spec t _ (h.ok k hk) (hr k hk)) fun k hk w hw => fcount_gen t _ w _ _ rfl (h.ok k hk) (by omega) (fun h5 => (h.nest k hk h5).1) fun h5 h1 ki hki => ?_
  · obtain ⟨_, h1, h2, h3, h4, _⟩ := h.ok k hk
    have := hr k hk
    unfold reachE
    split
    · omega
    · split
      · rename_i q; have := this q; omega
      · omega
  · refine cntF_zero (rb := bnd0 t) (h.ok k hk) (fun h5 m hm => cnt0_zero (h.nest k hk h5).2 m hm) m ?_
    have := reach_bnd (t := t) (h.ok k hk) (hb k hk)
    omega
  · exact fmtcount0_spec t _ (w - 1) ki hki (by omega) (h.nest k hk h5).2
theorem rCount_spec (t : List Fm) (i n : Int) : Ctr sys 23 [xtab t, xi i, xi n] [] (xie (cntE t i n)) none [] := by
  have hM := M1_val
  have hrl := Fm.rows_len t
  refine spec_intro Try.func23 rfl rfl rfl rfl rfl rfl ?_
  refine awp_seq (awp_region ?_)
  refine al_pure rfl rfl rfl (pure_assign rfl gU) ?_
  refine al_pure rfl rfl rfl (pure_assign rfl gU) ?_
  refine al_nil ?_
  refine awp_seq ?_
  refine awp_seq (awp_region ?_)
  refine al_pure rfl rfl rfl (pure_move rfl gU) ?_
  refine al_pure rfl rfl rfl (pure_move rfl gU) ?_
  refine al_call rfl rfl rfl rfl rfl rfl gU gU (rError_spec _ _) rfl ?_
  refine al_pure rfl rfl rfl (pure_assign rfl gU) ?_
  refine al_nil ?_
  refine awp_sub (s := { t := [(0, _, _), (1, _, _), (2, _, _), (8, _, _)], bx := [], ow := [] }) (sub_mk (⟨sx rfl, ⟨sx rfl, ⟨sx rfl, ⟨sx rfl, trivial⟩⟩⟩⟩) trivial trivial) ?_
  refine awp_seq (awp_region ?_)
  refine al_pure rfl rfl rfl (pure_move rfl gU) ?_
  refine al_pure rfl rfl rfl (pure_cmp rfl rfl gU gU rfl) ?_
  refine al_nil ?_
  refine awp_cond rfl (fun hc => ?_) (fun hc => ?_)
  · try simp only [nn, Fd.rows_len, Fm.rows_len, arrR_len] at hc
    refine awp_seq (awp_region ?_)
    refine al_pure rfl rfl rfl (pure_move rfl gU) ?_
    refine al_pure rfl rfl rfl (pure_assign rfl gU) ?_
    refine al_pure rfl rfl rfl (pure_assign rfl gU) ?_
    refine al_nil ?_
    refine awp_ret ?_
    repeat (first | refine tR ?_ | refine bR ?_)
    refine ret_ok rfl ?_ trivial
    (rw [cntE, if_pos (by omega)]; rfl)
  · try simp only [nn, Fd.rows_len, Fm.rows_len, arrR_len] at hc
    have he : errE t i = 0 := by omega
    have hit := (errE_fds he).1
    rw [cntE, if_neg (by omega)]
    refine awp_skip ?_
    refine awp_seq ?_
    refine awp_seq (awp_region ?_)
    refine al_pure rfl rfl rfl (pure_move rfl gU) ?_
    refine al_pure rfl rfl rfl (pure_cmp rfl rfl gU gU rfl) ?_
    refine al_pure rfl rfl rfl (pure_move rfl gU) ?_
    refine al_pure rfl rfl rfl (pure_move rfl gU) ?_
    refine al_pure rfl rfl rfl (pure_cmp rfl rfl (fun hh => hh) gU rfl) ?_
    refine al_pure rfl rfl rfl (pure_or rfl rfl gU (fun _ hi => gP rfl hi)) ?_
    refine al_nil ?_
    refine awp_sub (s := { t := [(0, _, _), (1, _, _), (2, _, _), (21, _, _)], bx := [], ow := [] }) (sub_mk (⟨sx rfl, ⟨sx rfl, ⟨sx rfl, ⟨sx rfl, trivial⟩⟩⟩⟩) trivial trivial) ?_
    refine awp_cond rfl (fun hc2 => ?_) (fun hc2 => ?_)
    · try simp only [nn, Fd.rows_len, Fm.rows_len, arrR_len] at hc2
      refine awp_seq (awp_region ?_)
      refine al_pure rfl rfl rfl (pure_assign rfl gU) ?_
      refine al_pure rfl rfl rfl (pure_assign rfl gU) ?_
      refine al_nil ?_
      refine awp_ret ?_
      repeat (first | refine tR ?_ | refine bR ?_)
      refine ret_ok rfl ?_ trivial
      (rw [if_pos (by omega)]; rfl)
    · try simp only [nn, Fd.rows_len, Fm.rows_len, arrR_len] at hc2
      rw [if_neg (by omega)]
      have hs : sat (cntT t i n.toNat) ≤ M1 := sat_le _
      refine awp_skip ?_
      refine awp_seq (awp_region ?_)
      refine al_pure rfl rfl rfl (pure_move rfl gU) ?_
      refine al_pure rfl rfl rfl (pure_move rfl gU) ?_
      refine al_pure rfl rfl rfl (pure_move rfl gU) ?_
      refine al_pure rfl rfl rfl (pure_indexAddr (j := i.toNat) rfl rfl gU gU rfl rfl (by first | omega | (simp at hh; omega)) (fun hh => Fm.rows_at (by first | omega | (simp at hh; omega)))) ?_
      refine al_pure rfl rfl rfl (pure_fieldRo rfl gU rfl rfl) ?_
      refine al_pure rfl rfl rfl (pure_loadRo rfl gU rfl rfl rfl) ?_
      refine al_pure rfl rfl rfl (pure_move rfl gU) ?_
      refine al_call rfl rfl rfl rfl rfl rfl gU gU (fmtcount_spec t i n.toNat n (by omega) (by omega) he) rfl ?_
      refine al_pure rfl rfl rfl (pure_assign rfl gU) ?_
      refine al_nil ?_
      refine awp_sub (s := { t := [(9, _, _)], bx := [], ow := [] }) (sub_mk (⟨sx rfl, trivial⟩) trivial trivial) ?_
      refine awp_seq ?_
      refine awp_seq (awp_region ?_)
      refine al_pure rfl rfl rfl (pure_move rfl gU) ?_
      refine al_pure rfl rfl rfl (pure_cmp rfl rfl gU gU rfl) ?_
      refine al_nil ?_
      refine awp_cond rfl (fun hc3 => ?_) (fun hc3 => ?_)
      · try simp only [nn, Fd.rows_len, Fm.rows_len, arrR_len] at hc3
        have : M1 ≤ cntT t i n.toNat := by simp only [satI] at hc3; unfold sat at hc3; omega
        refine awp_seq (awp_region ?_)
        refine al_pure rfl rfl rfl (pure_assign rfl gU) ?_
        refine al_pure rfl rfl rfl (pure_assign rfl gU) ?_
        refine al_nil ?_
        refine awp_ret ?_
        repeat (first | refine tR ?_ | refine bR ?_)
        refine ret_ok rfl ?_ trivial
        (rw [if_pos this]; rfl)
      · try simp only [nn, Fd.rows_len, Fm.rows_len, arrR_len] at hc3
        have : ¬ M1 ≤ cntT t i n.toNat := by simp only [satI] at hc3; unfold sat at hc3; omega
        have hsv : sat (cntT t i n.toNat) = cntT t i n.toNat := sat_of (by omega)
        refine awp_skip ?_
        refine awp_seq (awp_region ?_)
        refine al_pure rfl rfl rfl (pure_move rfl gU) ?_
        refine al_pure rfl rfl rfl (pure_assign rfl gU) ?_
        refine al_pure rfl rfl rfl (pure_assign rfl gU) ?_
        refine al_nil ?_
        refine awp_ret ?_
        repeat (first | refine tR ?_ | refine bR ?_)
        refine ret_ok rfl ?_ trivial
        (rw [if_neg this, ← hsv]; rfl)
end Go.Proofs.Ytgjclggjkhapfaa
/- Contracts: the examples hold. -/
set_option linter.unusedVariables false
set_option linter.unusedSimpArgs false
namespace Go.Proofs.Ytgjclggjkhapfaa
open Go Go.Abs
def txtA : List UInt8 := [97, 58, 32, 116, 97, 103, 32, 48, 49, 44, 32, 98, 121, 116, 101, 115, 32, 51, 10, 98, 58, 32, 110, 117, 109, 98, 101, 114, 32, 53, 32, 55, 44, 32, 110, 101, 115, 116, 101, 100, 32, 97, 10]
def tabA : List Fm := [⟨[97], [⟨1, [1], 0, 0, 0⟩, ⟨3, [], 3, 0, 0⟩]⟩, ⟨[98], [⟨4, [], 0, 5, 7⟩, ⟨5, [], 0, 0, 0⟩]⟩]
theorem exA1 : parseE txtA = (tabA, 0) := by kernel_rfl
theorem exA2 : encE tabA 0 (.mk [] 0 [v0, bv [120, 121]]) = ([1, 2, 120, 121], 0) := by kernel_rfl
theorem exA3 : (decE tabA 1 [6, 4, 1, 2, 120, 121]).2 = (0, 0) := by kernel_rfl
theorem exA4 : (decE tabA 1 [6, 4, 1, 3, 120, 121]).2 = (6, 2) := by kernel_rfl
theorem exA5 : (decE tabA 1 [6, 1]).2 = (1, 2) := by kernel_rfl
theorem exA6 : (decE tabA 1 [8]).2 = (0, 2) := by kernel_rfl
theorem exA7 : cntE tabA 0 4 = (65536, 0) := by kernel_rfl
theorem exA8 : cntE tabA 1 6 = (196608, 0) := by kernel_rfl
theorem awake_spec : Ctr sys 10 [] [] (xb true) none [] := by
  have h1 := Parse_spec txtA
  rw [exA1] at h1
  have h2 := cEncode_spec tabA 0 (.mk [] 0 [v0, bv [120, 121]])
  rw [exA2] at h2
  have h3 := cDecode_spec tabA 1 [6, 4, 1, 2, 120, 121] (by decide)
  have h4 := cDecode_spec tabA 1 [6, 4, 1, 3, 120, 121] (by decide)
  have h5 := cDecode_spec tabA 1 [6, 1] (by decide)
  have h6 := cDecode_spec tabA 1 [8] (by decide)
  have h7 := cCount_spec tabA 0 4
  rw [exA7] at h7
  have h8 := cCount_spec tabA 1 6
  rw [exA8] at h8
  have e3 := exA3
  have e4 := exA4
  have e5 := exA5
  have e6 := exA6
  generalize decE tabA 1 [6, 4, 1, 2, 120, 121] = d3 at *
  generalize decE tabA 1 [6, 4, 1, 3, 120, 121] = d4 at *
  generalize decE tabA 1 [6, 1] = d5 at *
  generalize decE tabA 1 [8] = d6 at *
  obtain ⟨v3, p3⟩ := d3
  obtain ⟨v4, p4⟩ := d4
  obtain ⟨v5, p5⟩ := d5
  obtain ⟨v6, p6⟩ := d6
  dsimp only at e3 e4 e5 e6
  subst e3; subst e4; subst e5; subst e6
  refine spec_intro Try.func10 rfl rfl rfl rfl rfl rfl ?_
  refine awp_seq (awp_region ?_)
  refine al_pure rfl rfl rfl (pure_assign rfl gU) ?_
  refine al_nil ?_
  refine awp_seq (awp_region ?_)
  refine al_call rfl rfl rfl rfl rfl rfl gU gU (h1) rfl ?_
  refine al_pure rfl rfl rfl (pure_move rfl gU) ?_
  refine al_pure rfl rfl rfl (pure_extract rfl gU rfl) ?_
  refine al_pure rfl rfl rfl (pure_extract rfl gU rfl) ?_
  refine al_pure rfl rfl rfl (pure_assign rfl gU) ?_
  refine al_pure rfl rfl rfl (pure_assign rfl gU) ?_
  refine al_nil ?_
  refine awp_sub (s := { t := [(1, _, _), (2, _, _)], bx := [], ow := [] }) (sub_mk (⟨sx rfl, ⟨sx rfl, trivial⟩⟩) trivial trivial) ?_
  refine awp_seq (awp_region ?_)
  refine al_pure rfl rfl rfl (pure_move rfl gU) ?_
  refine al_pure rfl rfl rfl (pure_build rfl Try.underlying25 rfl gU) ?_
  refine al_pure rfl rfl rfl (pure_build rfl Try.underlying25 rfl gU) ?_
  refine al_buildSlice (xs := [_, _]) rfl rfl rfl rfl rfl rfl rfl rfl rfl gU rfl ?_
  refine al_pure rfl rfl rfl (pure_build rfl Try.underlying25 rfl gU) ?_
  refine al_call rfl rfl rfl rfl rfl rfl gU gU (h2) rfl ?_
  refine al_pure rfl rfl rfl (pure_move rfl gU) ?_
  refine al_pure rfl rfl rfl (pure_extract rfl gU rfl) ?_
  refine al_pure rfl rfl rfl (pure_extract rfl gU rfl) ?_
  refine al_pure rfl rfl rfl (pure_assign rfl gU) ?_
  refine al_pure rfl rfl rfl (pure_assign rfl gU) ?_
  refine al_nil ?_
  refine awp_sub (s := { t := [(1, _, _), (2, _, _), (3, _, _), (4, _, _)], bx := [], ow := [] }) (sub_mk (⟨sx rfl, ⟨sx rfl, ⟨sx rfl, ⟨sx rfl, trivial⟩⟩⟩⟩) trivial trivial) ?_
  refine awp_seq (awp_region ?_)
  refine al_pure rfl rfl rfl (pure_move rfl gU) ?_
  refine al_call rfl rfl rfl rfl rfl rfl gU gU (h3) rfl ?_
  refine al_pure rfl rfl rfl (pure_move rfl gU) ?_
  refine al_pure rfl rfl rfl (pure_extract rfl gU rfl) ?_
  refine al_pure rfl rfl rfl (pure_extract rfl gU rfl) ?_
  refine al_pure rfl rfl rfl (pure_extract rfl gU rfl) ?_
  refine al_do rfl (does_alloc rfl rfl rfl) ?_
  refine al_do rfl (does_store rfl rfl rfl rfl rfl rfl rfl) ?_
  refine al_pure rfl rfl rfl (pure_assign rfl gU) ?_
  refine al_pure rfl rfl rfl (pure_assign rfl gU) ?_
  refine al_nil ?_
  refine awp_sub (s := { t := [(1, _, _), (2, _, _), (3, _, _), (4, _, _), (7, _, _)], bx := [], ow := [] }) (sub_mk (⟨sx rfl, ⟨sx rfl, ⟨sx rfl, ⟨sx rfl, ⟨sx rfl, trivial⟩⟩⟩⟩⟩) trivial trivial) ?_
  refine awp_seq (awp_region ?_)
  refine al_pure rfl rfl rfl (pure_move rfl gU) ?_
  refine al_call rfl rfl rfl rfl rfl rfl gU gU (h4) rfl ?_
  refine al_pure rfl rfl rfl (pure_move rfl gU) ?_
  refine al_pure rfl rfl rfl (pure_extract rfl gU rfl) ?_
  refine al_pure rfl rfl rfl (pure_extract rfl gU rfl) ?_
  refine al_pure rfl rfl rfl (pure_extract rfl gU rfl) ?_
  refine al_do rfl (does_alloc rfl rfl rfl) ?_
  refine al_do rfl (does_store rfl rfl rfl rfl rfl rfl rfl) ?_
  refine al_pure rfl rfl rfl (pure_assign rfl gU) ?_
  refine al_pure rfl rfl rfl (pure_assign rfl gU) ?_
  refine al_nil ?_
  refine awp_sub (s := { t := [(1, _, _), (2, _, _), (3, _, _), (4, _, _), (7, _, _), (9, _, _), (10, _, _)], bx := [], ow := [] }) (sub_mk (⟨sx rfl, ⟨sx rfl, ⟨sx rfl, ⟨sx rfl, ⟨sx rfl, ⟨sx rfl, ⟨sx rfl, trivial⟩⟩⟩⟩⟩⟩⟩) trivial trivial) ?_
  refine awp_seq (awp_region ?_)
  refine al_pure rfl rfl rfl (pure_move rfl gU) ?_
  refine al_call rfl rfl rfl rfl rfl rfl gU gU (h5) rfl ?_
  refine al_pure rfl rfl rfl (pure_move rfl gU) ?_
  refine al_pure rfl rfl rfl (pure_extract rfl gU rfl) ?_
  refine al_pure rfl rfl rfl (pure_extract rfl gU rfl) ?_
  refine al_pure rfl rfl rfl (pure_extract rfl gU rfl) ?_
  refine al_do rfl (does_alloc rfl rfl rfl) ?_
  refine al_do rfl (does_store rfl rfl rfl rfl rfl rfl rfl) ?_
  refine al_pure rfl rfl rfl (pure_assign rfl gU) ?_
  refine al_pure rfl rfl rfl (pure_assign rfl gU) ?_
  refine al_nil ?_
  refine awp_sub (s := { t := [(1, _, _), (2, _, _), (3, _, _), (4, _, _), (7, _, _), (9, _, _), (10, _, _), (12, _, _), (13, _, _)], bx := [], ow := [] }) (sub_mk (⟨sx rfl, ⟨sx rfl, ⟨sx rfl, ⟨sx rfl, ⟨sx rfl, ⟨sx rfl, ⟨sx rfl, ⟨sx rfl, ⟨sx rfl, trivial⟩⟩⟩⟩⟩⟩⟩⟩⟩) trivial trivial) ?_
  refine awp_seq (awp_region ?_)
  refine al_pure rfl rfl rfl (pure_move rfl gU) ?_
  refine al_call rfl rfl rfl rfl rfl rfl gU gU (h6) rfl ?_
  refine al_pure rfl rfl rfl (pure_move rfl gU) ?_
  refine al_pure rfl rfl rfl (pure_extract rfl gU rfl) ?_
  refine al_pure rfl rfl rfl (pure_extract rfl gU rfl) ?_
  refine al_pure rfl rfl rfl (pure_extract rfl gU rfl) ?_
  refine al_do rfl (does_alloc rfl rfl rfl) ?_
  refine al_do rfl (does_store rfl rfl rfl rfl rfl rfl rfl) ?_
  refine al_pure rfl rfl rfl (pure_assign rfl gU) ?_
  refine al_pure rfl rfl rfl (pure_assign rfl gU) ?_
  refine al_nil ?_
  refine awp_sub (s := { t := [(1, _, _), (2, _, _), (3, _, _), (4, _, _), (7, _, _), (9, _, _), (10, _, _), (12, _, _), (13, _, _), (15, _, _), (16, _, _)], bx := [], ow := [] }) (sub_mk (⟨sx rfl, ⟨sx rfl, ⟨sx rfl, ⟨sx rfl, ⟨sx rfl, ⟨sx rfl, ⟨sx rfl, ⟨sx rfl, ⟨sx rfl, ⟨sx rfl, ⟨sx rfl, trivial⟩⟩⟩⟩⟩⟩⟩⟩⟩⟩⟩) trivial trivial) ?_
  refine awp_seq (awp_region ?_)
  refine al_pure rfl rfl rfl (pure_move rfl gU) ?_
  refine al_call rfl rfl rfl rfl rfl rfl gU gU (h7) rfl ?_
  refine al_pure rfl rfl rfl (pure_move rfl gU) ?_
  refine al_pure rfl rfl rfl (pure_extract rfl gU rfl) ?_
  refine al_pure rfl rfl rfl (pure_extract rfl gU rfl) ?_
  refine al_pure rfl rfl rfl (pure_assign rfl gU) ?_
  refine al_pure rfl rfl rfl (pure_assign rfl gU) ?_
  refine al_nil ?_
  refine awp_sub (s := { t := [(1, _, _), (2, _, _), (3, _, _), (4, _, _), (7, _, _), (9, _, _), (10, _, _), (12, _, _), (13, _, _), (15, _, _), (16, _, _), (17, _, _), (18, _, _)], bx := [], ow := [] }) (sub_mk (⟨sx rfl, ⟨sx rfl, ⟨sx rfl, ⟨sx rfl, ⟨sx rfl, ⟨sx rfl, ⟨sx rfl, ⟨sx rfl, ⟨sx rfl, ⟨sx rfl, ⟨sx rfl, ⟨sx rfl, ⟨sx rfl, trivial⟩⟩⟩⟩⟩⟩⟩⟩⟩⟩⟩⟩⟩) trivial trivial) ?_
  refine awp_seq (awp_region ?_)
  refine al_pure rfl rfl rfl (pure_move rfl gU) ?_
  refine al_call rfl rfl rfl rfl rfl rfl gU gU (h8) rfl ?_
  refine al_pure rfl rfl rfl (pure_move rfl gU) ?_
  refine al_pure rfl rfl rfl (pure_extract rfl gU rfl) ?_
  refine al_pure rfl rfl rfl (pure_extract rfl gU rfl) ?_
  refine al_pure rfl rfl rfl (pure_assign rfl gU) ?_
  refine al_pure rfl rfl rfl (pure_assign rfl gU) ?_
  refine al_nil ?_
  refine awp_sub (s := { t := [(2, _, _), (3, _, _), (4, _, _), (7, _, _), (9, _, _), (10, _, _), (12, _, _), (13, _, _), (15, _, _), (16, _, _), (17, _, _), (18, _, _), (19, _, _), (20, _, _)], bx := [], ow := [] }) (sub_mk (⟨sx rfl, ⟨sx rfl, ⟨sx rfl, ⟨sx rfl, ⟨sx rfl, ⟨sx rfl, ⟨sx rfl, ⟨sx rfl, ⟨sx rfl, ⟨sx rfl, ⟨sx rfl, ⟨sx rfl, ⟨sx rfl, ⟨sx rfl, trivial⟩⟩⟩⟩⟩⟩⟩⟩⟩⟩⟩⟩⟩⟩) trivial trivial) ?_
  refine awp_seq (awp_region ?_)
  refine al_pure rfl rfl rfl (pure_move rfl gU) ?_
  refine al_pure rfl rfl rfl (pure_cmp rfl rfl gU gU rfl) ?_
  refine al_pure rfl rfl rfl (pure_move rfl gU) ?_
  refine al_pure rfl rfl rfl (pure_move rfl gU) ?_
  refine al_pure rfl rfl rfl (pure_cmp rfl rfl (fun hh => hh) gU rfl) ?_
  refine al_pure rfl rfl rfl (pure_and rfl rfl gU (fun _ hi => gP rfl hi)) ?_
  refine al_pure rfl rfl rfl (pure_move rfl gU) ?_
  refine al_pure rfl rfl rfl (pure_move rfl gU) ?_
  refine al_pure rfl rfl rfl (pure_cmp rfl rfl (fun hh => hh) gU rfl) ?_
  refine al_pure rfl rfl rfl (pure_and rfl rfl gU (fun _ hi => gP rfl hi)) ?_
  refine al_pure rfl rfl rfl (pure_move rfl gU) ?_
  refine al_pure rfl rfl rfl (pure_move rfl gU) ?_
  refine al_pure rfl rfl rfl (pure_cmp rfl rfl (fun hh => hh) gU rfl) ?_
  refine al_pure rfl rfl rfl (pure_and rfl rfl gU (fun _ hi => gP rfl hi)) ?_
  refine al_pure rfl rfl rfl (pure_move rfl gU) ?_
  refine al_pure rfl rfl rfl (pure_move rfl gU) ?_
  refine al_pure rfl rfl rfl (pure_cmp rfl rfl (fun hh => hh) gU rfl) ?_
  refine al_pure rfl rfl rfl (pure_and rfl rfl gU (fun _ hi => gP rfl hi)) ?_
  refine al_pure rfl rfl rfl (pure_move rfl gU) ?_
  refine al_pure rfl rfl rfl (pure_move rfl gU) ?_
  refine al_pure rfl rfl rfl (pure_cmp rfl rfl (fun hh => hh) gU rfl) ?_
  refine al_pure rfl rfl rfl (pure_and rfl rfl gU (fun _ hi => gP rfl hi)) ?_
  refine al_pure rfl rfl rfl (pure_move rfl gU) ?_
  refine al_pure rfl rfl rfl (pure_move rfl gU) ?_
  refine al_pure rfl rfl rfl (pure_cmp rfl rfl (fun hh => hh) gU rfl) ?_
  refine al_pure rfl rfl rfl (pure_and rfl rfl gU (fun _ hi => gP rfl hi)) ?_
  refine al_pure rfl rfl rfl (pure_move rfl gU) ?_
  refine al_pure rfl rfl rfl (pure_move rfl gU) ?_
  refine al_pure rfl rfl rfl (pure_cmp rfl rfl (fun hh => hh) gU rfl) ?_
  refine al_pure rfl rfl rfl (pure_and rfl rfl gU (fun _ hi => gP rfl hi)) ?_
  refine al_pure rfl rfl rfl (pure_assign rfl gU) ?_
  refine al_nil ?_
  refine awp_sub (s := { t := [(3, _, _), (9, _, _), (12, _, _), (15, _, _), (17, _, _), (19, _, _), (21, _, _)], bx := [], ow := [] }) (sub_mk (⟨sx rfl, ⟨sx rfl, ⟨sx rfl, ⟨sx rfl, ⟨sx rfl, ⟨sx rfl, ⟨sx rfl, trivial⟩⟩⟩⟩⟩⟩⟩) trivial trivial) ?_
  refine awp_seq (awp_region ?_)
  refine al_pure rfl rfl rfl (pure_move rfl gU) ?_
  refine al_pure rfl rfl rfl (pure_move rfl gU) ?_
  refine al_pure rfl rfl rfl (pure_move rfl gU) ?_
  refine al_pure rfl rfl rfl (pure_cmpS rfl rfl (fun hh => hh) gU rfl) ?_
  refine al_pure rfl rfl rfl (pure_and rfl rfl gU (fun _ hi => gP rfl hi)) ?_
  refine al_pure rfl rfl rfl (pure_move rfl gU) ?_
  refine al_pure rfl rfl rfl (pure_move rfl gU) ?_
  refine al_pure rfl rfl rfl (pure_cmp rfl rfl (fun hh => hh) gU rfl) ?_
  refine al_pure rfl rfl rfl (pure_and rfl rfl gU (fun _ hi => gP rfl hi)) ?_
  refine al_pure rfl rfl rfl (pure_move rfl gU) ?_
  refine al_pure rfl rfl rfl (pure_move rfl gU) ?_
  refine al_pure rfl rfl rfl (pure_cmp rfl rfl (fun hh => hh) gU rfl) ?_
  refine al_pure rfl rfl rfl (pure_and rfl rfl gU (fun _ hi => gP rfl hi)) ?_
  refine al_pure rfl rfl rfl (pure_move rfl gU) ?_
  refine al_pure rfl rfl rfl (pure_move rfl gU) ?_
  refine al_pure rfl rfl rfl (pure_cmp rfl rfl (fun hh => hh) gU rfl) ?_
  refine al_pure rfl rfl rfl (pure_and rfl rfl gU (fun _ hi => gP rfl hi)) ?_
  refine al_pure rfl rfl rfl (pure_move rfl gU) ?_
  refine al_pure rfl rfl rfl (pure_move rfl gU) ?_
  refine al_pure rfl rfl rfl (pure_cmp rfl rfl (fun hh => hh) gU rfl) ?_
  refine al_pure rfl rfl rfl (pure_and rfl rfl gU (fun _ hi => gP rfl hi)) ?_
  refine al_pure rfl rfl rfl (pure_move rfl gU) ?_
  refine al_pure rfl rfl rfl (pure_move rfl gU) ?_
  refine al_pure rfl rfl rfl (pure_cmp rfl rfl (fun hh => hh) gU rfl) ?_
  refine al_pure rfl rfl rfl (pure_and rfl rfl gU (fun _ hi => gP rfl hi)) ?_
  refine al_pure rfl rfl rfl (pure_assign rfl gU) ?_
  refine al_nil ?_
  refine awp_ret ?_
  repeat (first | refine tR ?_ | refine bR ?_)
  refine ret_ok rfl ?_ trivial
  rfl
end Go.Proofs.Ytgjclggjkhapfaa
/- From readings to tables, values, strings and numbers. -/
set_option linter.unusedVariables false
set_option linter.unusedSimpArgs false
namespace Go.Proofs.Ytgjclggjkhapfaa
open Go Go.Abs
theorem plainL : closedB Try.prog [3, 4, 9, 22, 60, 58, 62, 23, 25] = true := by kernel_rfl
theorem cellsFm : Try.prog.cellsOf 60 = 2 := by kernel_rfl
theorem cellsFd : Try.prog.cellsOf 62 = 5 := by kernel_rfl
theorem cellsV : Try.prog.cellsOf 25 = 3 := by kernel_rfl
theorem int_of {n : Nat} {cs : List C} (h : hasTy Try.prog n 3 cs) : ∃ m, cs = [.i .i64 m] ∧ (Lit.int .i64 m).wf = true := by
  cases n with
  | zero => exact h.elim
  | succ n => simp only [hasTy, Try.underlying3] at h; exact h
theorem str_of {n : Nat} {cs : List C} (h : hasTy Try.prog n 9 cs) : ∃ l, cs = [.s l] := by
  cases n with
  | zero => exact h.elim
  | succ n => simp only [hasTy, Try.underlying9] at h; exact h
theorem list_of {α : Type} {f : α → List C} {R : List C → Prop} (h : ∀ row, R row → ∃ t : α, row = f t) : ∀ es : List (List C), (∀ row, row ∈ es → R row) → ∃ ts : List α, es = ts.map f
  | [], _ => ⟨[], rfl⟩
  | e :: es, he => by
    obtain ⟨t, ht⟩ := h e (he e (List.mem_cons_self ..))
    obtain ⟨ts, hts⟩ := list_of h es fun row hr => he row (List.mem_cons_of_mem _ hr)
    exact ⟨t :: ts, by rw [List.map_cons, ← hts, ht]⟩
theorem field_of {n : Nat} {cs : List C} (h : hasTy Try.prog n 62 cs) : ∃ f : Fd, cs = f.cells := by
  cases n with
  | zero => exact h.elim
  | succ n =>
    simp only [hasTy, Try.underlying62, hasFs] at h
    obtain ⟨a, b, rfl, h1, c, d, rfl, h2, e, f, rfl, h3, g, k, rfl, h4, u, v, rfl, h5, rfl⟩ := h
    obtain ⟨m1, rfl, _⟩ := int_of h1
    obtain ⟨m2, rfl⟩ := str_of h2
    obtain ⟨m3, rfl, _⟩ := int_of h3
    obtain ⟨m4, rfl, _⟩ := int_of h4
    obtain ⟨m5, rfl, _⟩ := int_of h5
    exact ⟨⟨m1, m2, m3, m4, m5⟩, rfl⟩
theorem fields_of {n : Nat} {cs : List C} (h : hasTy Try.prog n 58 cs) : ∃ l : List Fd, cs = [.sl 5 (Fd.rows l)] := by
  cases n with
  | zero => exact h.elim
  | succ n =>
    simp only [hasTy, Try.underlying58, cellsFd] at h
    obtain ⟨es, h1, h5⟩ := h
    obtain ⟨ts, rfl⟩ := list_of (f := Fd.cells) (fun row hr => field_of hr) es h5
    exact ⟨ts, h1⟩
theorem format_of {n : Nat} {cs : List C} (h : hasTy Try.prog n 60 cs) : ∃ f : Fm, cs = f.cells := by
  cases n with
  | zero => exact h.elim
  | succ n =>
    simp only [hasTy, Try.underlying60, hasFs] at h
    obtain ⟨a, b, rfl, h1, c, d, rfl, h2, rfl⟩ := h
    obtain ⟨m1, rfl⟩ := str_of h1
    obtain ⟨m2, rfl⟩ := fields_of h2
    exact ⟨⟨m1, m2⟩, rfl⟩
theorem table_of {n : Nat} {c : C} (h : hasTy Try.prog n 22 [c]) : ∃ t : List Fm, c = .sl 2 (Fm.rows t) := by
  cases n with
  | zero => exact h.elim
  | succ n =>
    simp only [hasTy, Try.underlying22, cellsFm] at h
    obtain ⟨es, h1, h5⟩ := h
    obtain ⟨ts, rfl⟩ := list_of (f := Fm.cells) (fun row hr => format_of hr) es h5
    exact ⟨ts, by simp only [List.cons.injEq, and_true] at h1; exact h1⟩
set_option maxRecDepth 100000 in
theorem value_of : ∀ (n : Nat) (cs : List C), hasTy Try.prog n 25 cs → ∃ v : V, cs = v.cells
  | 0, cs, h => h.elim
  | 1, cs, h => by
    simp only [hasTy, Try.underlying25, hasFs] at h
    obtain ⟨_, _, _, h, _⟩ := h
    exact h.elim
  | n + 2, cs, h => by
    have ih := value_of n
    rw [hasTy] at h
    simp only [Try.underlying25, hasFs] at h
    obtain ⟨a, b, rfl, h1, c, d, rfl, h2, e, f, rfl, h3, rfl⟩ := h
    obtain ⟨m1, rfl⟩ := str_of h1
    obtain ⟨m2, rfl, _⟩ := int_of h2
    rw [hasTy] at h3
    simp only [Try.underlying23, cellsV] at h3
    obtain ⟨es, rfl, h5⟩ := h3
    obtain ⟨ts, rfl⟩ := list_of (f := V.cells) ih es h5
    exact ⟨.mk m1 m2 ts, by rw [← V.rows_eq]; rfl⟩
theorem value1_of {n : Nat} {cs : List C} (h : hasTy Try.prog n 25 cs) : ∃ v : V, cs = v.cells := value_of n cs h
theorem str1_of {n : Nat} {c : C} (h : hasTy Try.prog n 9 [c]) : ∃ l, c = .s l := by
  obtain ⟨l, hl⟩ := str_of h
  exact ⟨l, by simpa using hl⟩
theorem int1_of {n : Nat} {c : C} (h : hasTy Try.prog n 3 [c]) : ∃ m, c = .i .i64 m := by
  obtain ⟨l, hl, _⟩ := int_of h
  exact ⟨l, by simpa using hl⟩
theorem own : ownKnob Try.prog.godebug = none := by kernel_rfl
theorem laidOut : laidOutB Try.prog = true := by kernel_rfl
end Go.Proofs.Ytgjclggjkhapfaa
