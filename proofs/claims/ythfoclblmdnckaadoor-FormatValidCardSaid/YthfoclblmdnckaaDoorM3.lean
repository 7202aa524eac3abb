/- Our abstract program logic and contracts of this seat's functions, part 3: no statement of its own. -/
import Derived.Test.YthfoclblmdnckaaDoorM2
import Derived.Below
import Derived.RangeFuncBox
import Derived.Test.YthfoclblmdnckaaDoorProg
import Derived.KernelRfl
import Derived.Lib.LaidTab
import Derived.Shelf.Strconv.Itoa3
/- Pure calls; slices that stand in boxes by their value; a closure that sets an element of such a slice. -/
set_option linter.unusedVariables false
set_option linter.unusedSimpArgs false
namespace Go.Abs
variable {Z : Pg}

/-- A function that turns nothing. -/
theorem ctr_pure {f : FuncId} {args : List X} (us : List Value) {res : X} {v : Value} (hen : Enters Z f) (ha : ∀ (w : World) (G : Gh) (vs : List Value), All2 (XRep w G) args vs → vs = us)
    (hc : ∀ w, Calls Z.P f us.toArray w fun e w' => e = .returned v ∧ w' = w) (hr : ∀ w G, XRep w G res v) : Ctr Z f args [] res none [] := by
  refine ⟨hen, fun w G vs hvs hwf hbx hbox hown _ => ?_⟩
  obtain rfl := ha w G vs hvs
  refine (hc w).mono ?_
  rintro e w' ⟨rfl, rfl⟩
  exact ⟨v, G, rfl, Fr.refl _ _ _, fun _ _ h => h, fun _ _ _ h => h, hwf, hr _ _, fun _ => rfl, fun j cs h => by simp at h, fun sz h => by simp at h, fun b o h => absurd h (hown b o _)⟩

/-! ### Values of slices over boxes -/
def St.val (st : St) (k : Nat) (n : Nm) (sz off len : Nat) (u : Value) : St := { st with t := (k, true, .v (.msv n sz off len u)) :: st.t }
theorem Rel.val {E : Env} {G : Gh} {st : St} {a : Act} {w : World} (h : Rel E G st a w) {k sz off len : Nat} {n : Nm} (hs : st.get k = some (true, .v (.ms n sz off len))) (hl : 0 < len) : ∃ u, Rel E G (st.val k n sz off len u) a w := by
  obtain ⟨v, hv, hv1, _⟩ := h.tm _ _ _ hs
  refine ⟨v, { df := h.df, tm := ?_, bx := h.bx, ow := h.ow, wf := h.wf, olB := h.olB, olO := h.olO, nt := h.nt, oA := h.oA, im := h.im, im' := h.im', fr := h.fr, hB := h.hB, lo := h.lo, bd := h.bd, mp := h.mp }⟩
  intro j g x hj
  have hj2 : getT ((k, true, .v (.msv n sz off len v)) :: st.t) j = some (g, x) := hj
  rw [getT_cons] at hj2
  split at hj2
  · rename_i he; subst he
    simp only [Option.some.injEq, Prod.mk.injEq] at hj2
    obtain ⟨rfl, rfl⟩ := hj2
    refine ⟨v, hv, fun _ => ?_, fun hg => by simp at hg⟩
    rcases hv1 rfl with ⟨e, _⟩ | e
    · omega
    · exact ⟨rfl, e⟩
  · exact h.tm _ _ _ hj2
theorem al_val {N : Nat} {ops : Array Oper} {rest : List Oper} {K : St → Prop} {st : St} (k : Nat) {sz off len : Nat} {n : Nm} (hs : st.get k = some (true, .v (.ms n sz off len))) (hl : 0 < len)
    (h : ∀ u, AL Z N ops rest K (st.val k n sz off len u)) : AL Z N ops rest K st := fun E G a w hr hE => by
  obtain ⟨u, hu⟩ := hr.val hs hl
  exact h u E G a w hu hE
def St.same (st : St) (j : Nat) (n : Nm) (sz off len : Nat) : St := { st with t := (j, true, .v (.ms n sz off len)) :: st.t }
theorem Rel.same {E : Env} {G : Gh} {st : St} {a : Act} {w : World} (h : Rel E G st a w) {j k sz off len : Nat} {n : Nm} {u : Value} (hj : st.get j = some (true, .v (.c (.o u)))) (hs : st.get k = some (true, .v (.msv n sz off len u))) :
    Rel E G (st.same j n sz off len) a w := by
  obtain ⟨v, hv, hv1, _⟩ := h.tm _ _ _ hj
  obtain ⟨v', hv', hv2, _⟩ := h.tm _ _ _ hs
  have e1 : v = u := by
    have : CRep w G.S (.o u) v := hv1 rfl
    cases this; rfl
  subst e1
  refine { df := h.df, tm := ?_, bx := h.bx, ow := h.ow, wf := h.wf, olB := h.olB, olO := h.olO, nt := h.nt, oA := h.oA, im := h.im, im' := h.im', fr := h.fr, hB := h.hB, lo := h.lo, bd := h.bd, mp := h.mp }
  intro i g x hi
  have hj2 : getT ((j, true, .v (.ms n sz off len)) :: st.t) i = some (g, x) := hi
  rw [getT_cons] at hj2
  split at hj2
  · rename_i he; subst he
    simp only [Option.some.injEq, Prod.mk.injEq] at hj2
    obtain ⟨rfl, rfl⟩ := hj2
    refine ⟨v, hv, fun _ => ?_, fun hg => by simp at hg⟩
    obtain ⟨e, q⟩ := hv2 rfl
    subst e
    exact .inr q
  · exact h.tm _ _ _ hj2
theorem al_same {N : Nat} {ops : Array Oper} {rest : List Oper} {K : St → Prop} {st : St} (j k : Nat) {sz off len : Nat} {n : Nm} {u : Value} (hj : st.get j = some (true, .v (.c (.o u)))) (hs : st.get k = some (true, .v (.msv n sz off len u)))
    (h : AL Z N ops rest K (st.same j n sz off len)) : AL Z N ops rest K st := fun E G a w hr hE => h E G a w (hr.same hj hs) hE

/-! ### The closure -/
section
variable {st : St} {ty : TypeId} {gate : Bool}
theorem lkCaps {E : Env} {G : Gh} {a : Act} {w : World} (hr : Rel E G st a w) : ∀ {os : List Operand} {ys : List Y}, (os.map fun o => match o with | .tmp k => (match st.get k with | some (true, .v y) => some y | _ => none) | _ => none) = ys.map some →
    All2 (YRep w G) ys (os.map a.eval)
  | [], [], _ => trivial
  | [], _ :: _, h => by simp at h
  | _ :: _, [], h => by simp at h
  | o :: os, y :: ys, h => by
    simp only [List.map_cons, List.cons.injEq] at h
    refine ⟨?_, lkCaps hr h.2⟩
    have h1 := h.1
    split at h1
    · rename_i k
      split at h1
      · rename_i y' he
        simp only [Option.some.injEq] at h1; subst h1
        exact lk_rep (T := []) (ty := 0) (o := .tmp k) hr he rfl
      · simp at h1
    · simp at h1
theorem pure_makeFunc {f : FuncId} {caps : Array Operand} {ys : List Y} (h : (caps.toList.map fun o => match o with | .tmp k => (match st.get k with | some (true, .v y) => some y | _ => none) | _ => none) = ys.map some) :
    PureOk Z st (.makeFunc (.func f) #[] caps) ty gate (.fn f ys) := by
  intro o E G a w ho _ hr hgt
  refine ⟨.func (.func f) #[] (caps.toList.map a.eval).toArray, ⟨_, rfl, lkCaps hr h⟩, ?_⟩
  have : (caps.toList.map a.eval).toArray = caps.map a.eval := by rw [← Array.toList_map, Array.toArray_toList]
  rw [this]
  simp [execOp, ho, Instr.makeFunc]
end
/-- What the closure does: it sets the element with the index, where the index is not too great. -/
structure SetFn (Z : Pg) (f : FuncId) : Prop where
  en : Enters Z f
  run : ∀ (w : World) (pb po qb qo : Nat) (m n c : Int) (blk off len cap : Nat), w.cell? ⟨pb, po, none⟩ = some (.int .i64 n) → w.cell? ⟨qb, qo, none⟩ = some (.slice (some ⟨blk, off, none⟩) len cap) → 0 ≤ m → (len : Int) = n + 1 → (len : Int) < 9223372036854775807 →
    (∀ j, j < len → (w.cell? ⟨blk, off + j, none⟩).isSome = true) → (∀ j, j < len → w.frozen? ⟨blk, off + j, none⟩ = false) →
    Calls Z.P f #[.int .i64 m, .int .u64 c, .pointer (some ⟨pb, po, none⟩), .pointer (some ⟨qb, qo, none⟩)] w fun e w' => e = .returned (.tuple #[]) ∧ w' = if m ≤ n then w.setCell ⟨blk, off + m.toNat, none⟩ (.int .u64 c) else w
def setIf (cs : List C) (m n c : Int) : List C := if m ≤ n then setAt cs m.toNat [.i .u64 c] else cs
theorem setCells_one (w : World) (b o : Nat) (v : Value) : w.setCells b o [v] = w.setCell ⟨b, o, none⟩ v := rfl
theorem op1_clos {N : Nat} {ops : Array Oper} {st : St} {o : Oper} {d : Nat} {fo x y : Operand} {ts : Array TypeId} {f : FuncId} {a b r q : Nat} {m n c : Int} {len : Nat} {cs : List C} {u : Value} (S : SetFn Z f)
    (ho : o.op = .call { callee := .value fo, args := #[x, y], argTypes := ts }) (hg : gateOf ops st o = some true) (hd : o.dst = some d) (hN : Nat.ble (d + 1) N = true)
    (hf : lk Z.T st 0 fo = some (true, .fn f [.ptr (.l a) 0, .ptr (.l b) 0])) (hxy : lkAll Z.T st ts.toList [x, y] = some (true, [.v (.c (.i .i64 m)), .v (.c (.i .u64 c))]))
    (hba : st.box (.l a) = some [.i .i64 n]) (hbb : st.box (.l b) = some [.o u]) (hq : st.get q = some (true, .v (.msv (.l r) 1 0 len u))) (hbr : st.box (.l r) = some cs) (hl : cs.length = len) (hn : (len : Int) = n + 1) (hm : 0 ≤ m) (hmx : (len : Int) < 9223372036854775807) :
    Op1 Z N ops o st ((st.store (.l r) (setIf cs m n c) m.toNat 1).put d (true, .tup [])) := by
  intro E G ac w hr hE K' Q' hK
  have hdN : d < E.nt := by rw [hE.nt]; exact Nat.le_of_ble_eq_true hN
  rw [wanted_gate hr hg]
  simp only [if_true]
  obtain ⟨cvs, hfv, hcv⟩ := lk_rep hr hf rfl
  match cvs, hcv with
  | [v1, v2], ⟨hv1, hv2, _⟩ =>
  obtain ⟨hx, hy, _⟩ := lkAll_rep hr hxy rfl
  have hx1 := XRep.int hx
  have hy1 := XRep.int hy
  have hv1' : v1 = .pointer (some ⟨(G.A (.l a)).1, (G.A (.l a)).2 + 0, none⟩) := hv1
  have hv2' : v2 = .pointer (some ⟨(G.A (.l b)).1, (G.A (.l b)).2 + 0, none⟩) := hv2
  subst hv1'; subst hv2'
  obtain ⟨uq, _, huq, _⟩ := hr.tm _ _ _ hq
  obtain ⟨e1, cap, _, e2⟩ := huq rfl
  subst e1
  obtain ⟨_, _, va, ha1, ha2⟩ := hr.bx _ _ hba 0 _ rfl
  obtain ⟨_, _, vb, hb1, hb2⟩ := hr.bx _ _ hbb 0 _ rfl
  have ha3 : va = .int .i64 n := by cases ha2; rfl
  have hb3 : vb = uq := by cases hb2; rfl
  subst ha3; subst hb3
  rw [e2] at hb1
  obtain ⟨q1, q2⟩ := cells_there (hr.bx _ _ hbr) (off := 0) (len := len) (by omega)
  have hcall := S.run w (G.A (.l a)).1 ((G.A (.l a)).2 + 0) (G.A (.l b)).1 ((G.A (.l b)).2 + 0) m n c (G.A (.l r)).1 ((G.A (.l r)).2 + 0) len cap ha1 hb1 hm hn hmx
    (fun j hj => by have := q1 j hj; simpa using this) (fun j hj => by have := q2 j hj; simpa using this)
  unfold Oper.wp
  rw [run_call ho hfv S.en, Oper.upon_enter]
  have hargs : ((#[x, y] : Array Operand).toList.map ac.eval ++ [Value.pointer (some ⟨(G.A (.l a)).1, (G.A (.l a)).2 + 0, none⟩), Value.pointer (some ⟨(G.A (.l b)).1, (G.A (.l b)).2 + 0, none⟩)]).toArray =
      #[.int .i64 m, .int .u64 c, .pointer (some ⟨(G.A (.l a)).1, (G.A (.l a)).2 + 0, none⟩), .pointer (some ⟨(G.A (.l b)).1, (G.A (.l b)).2 + 0, none⟩)] := by
    simp [hx1, hy1]
  rw [hargs]
  refine hcall.mono ?_
  rintro e w' ⟨rfl, rfl⟩
  dsimp only
  rw [hd] at hK ⊢
  refine hK G _ _ (Rel.put (st := st.store (.l r) (setIf cs m n c) m.toNat 1) ?_ hdN (g := true) (fun _ => ⟨[], rfl, trivial⟩) (fun hf => by simp at hf))
  unfold setIf
  split
  · rename_i hle
    have := hr.storeAll [.i .u64 c] [.int .u64 c] (n := .l r) (off := m.toNat) hbr (by simp; omega) ⟨CRep.i _ _, trivial⟩ (fun h => by simp [Nm.isBd] at h)
    rw [Nat.add_zero]
    exact this
  · refine Rel.sub (st := st) ⟨fun _ _ x => x, ?_, ?_, .inr rfl⟩ hr
    · intro i ds hi
      rw [St.store_box] at hi
      split at hi
      · rename_i he; subst he; rw [hbr]; exact hi
      · exact hi
    · intro p s hp
      rw [St.store_own] at hp
      split at hp
      · simp at hp
      · exact hp
theorem al_clos {N : Nat} {ops : Array Oper} {rest : List Oper} {K : St → Prop} {st : St} {o : Oper} {d : Nat} {fo x y : Operand} {ts : Array TypeId} {f : FuncId} {a b r : Nat} (q : Nat) {m n c : Int} {len : Nat} {cs : List C} {u : Value} (S : SetFn Z f)
    (ho : o.op = .call { callee := .value fo, args := #[x, y], argTypes := ts }) (hg : gateOf ops st o = some true) (hd : o.dst = some d) (hN : Nat.ble (d + 1) N = true)
    (hf : lk Z.T st 0 fo = some (true, .fn f [.ptr (.l a) 0, .ptr (.l b) 0])) (hxy : lkAll Z.T st ts.toList [x, y] = some (true, [.v (.c (.i .i64 m)), .v (.c (.i .u64 c))]))
    (hba : st.box (.l a) = some [.i .i64 n]) (hbb : st.box (.l b) = some [.o u]) (hq : st.get q = some (true, .v (.msv (.l r) 1 0 len u))) (hbr : st.box (.l r) = some cs) (hl : cs.length = len) (hn : (len : Int) = n + 1) (hm : 0 ≤ m) (hmx : (len : Int) < 9223372036854775807)
    (h : AL Z N ops rest K ((st.store (.l r) (setIf cs m n c) m.toNat 1).put d (true, .tup []))) : AL Z N ops (o :: rest) K st :=
  al_op1 (op1_clos S ho hg hd hN hf hxy hba hbb hq hbr hl hn hm hmx) h
theorem dr_clos {N : Nat} {ops : Array Oper} {rest : List Oper} {st : St} {o : Oper} {s0 : St} {B : List Nat} {k : Nat} {acc : List Lnk} {Q : St → Prop} {d : Nat} {fo x y : Operand} {ts : Array TypeId} {f : FuncId} (a b r q : Nat) {m n c : Int} {len : Nat} {cs : List C} {u : Value} {R : Foot} (S : SetFn Z f)
    (hR : R = { foot ops o [.l a, .l b, .l r] [] with rt := q :: slotsOf ops o }) (hk : ops[k]? = some o)
    (ho : o.op = .call { callee := .value fo, args := #[x, y], argTypes := ts }) (hg : gateOf ops (rs R st) o = some true) (hd : o.dst = some d) (hN : Nat.ble (d + 1) N = true)
    (hf : lk Z.T (rs R st) 0 fo = some (true, .fn f [.ptr (.l a) 0, .ptr (.l b) 0])) (hxy : lkAll Z.T (rs R st) ts.toList [x, y] = some (true, [.v (.c (.i .i64 m)), .v (.c (.i .u64 c))]))
    (hba : (rs R st).box (.l a) = some [.i .i64 n]) (hbb : (rs R st).box (.l b) = some [.o u]) (hq : (rs R st).get q = some (true, .v (.msv (.l r) 1 0 len u))) (hbr : (rs R st).box (.l r) = some cs) (hl : cs.length = len) (hn : (len : Int) = n + 1) (hm : 0 ≤ m) (hmx : (len : Int) < 9223372036854775807)
    (hr : Draw Z N s0 ops B (k + 1) rest (acc ++ [(k, { d := some (d, true, .tup []), b := some (.l r, setIf cs m n c), drop := .t d :: cellPls (.l r) m.toNat 1 }, R)]) (ap { d := some (d, true, .tup []), b := some (.l r, setIf cs m n c), drop := .t d :: cellPls (.l r) m.toNat 1 } st) Q) :
    Draw Z N s0 ops B k (o :: rest) acc st Q := by
  refine dr_cons hk (e := { d := some (d, true, .tup []), b := some (.l r, setIf cs m n c), drop := .t d :: cellPls (.l r) m.toNat 1 }) (R := R) ?_ hr (by subst hR; intro n hn; exact absurd hn (List.not_mem_nil))
  intro s2 hag _
  refine (op1_clos S ho (gateOf_sub hag.sub hg) hd hN (lk_sub hag.sub hf) (lkAll_sub hag.sub hxy) (hag.sub.bx _ _ hba) (hag.sub.bx _ _ hbb) (hag.sub.t _ _ hq) (hag.sub.bx _ _ hbr) hl hn hm hmx).sub ⟨?_, ?_, ?_, by exact .inr rfl⟩
  · intro j e hj
    rw [ap_get] at hj
    rw [St.put_get]
    simp only [Eff.gt] at hj
    by_cases h : d = j
    · subst h; simpa using hj
    · have h' : ¬ j = d := fun e => h e.symm
      rw [if_neg h']
      show s2.get j = _
      simpa [h] using hj
  · intro m' ds hm'
    rw [ap_box] at hm'
    show (s2.store (.l r) (setIf cs m n c) m.toNat 1).box m' = _
    rw [St.store_box]
    simp only [Eff.gb] at hm'
    split
    · rename_i he; rw [if_pos he] at hm'; exact hm'
    · rename_i he; rw [if_neg he] at hm'; exact hm'
  · intro q' s hq'
    rw [ap_own] at hq'
    rw [St.put_own]
    simp only [Eff.go, List.mem_cons] at hq'
    split
    · rename_i he; rw [if_pos (.inl he)] at hq'; exact hq'
    · rename_i he
      show (s2.store (.l r) (setIf cs m n c) m.toNat 1).own q' = _
      rw [St.store_own]
      split
      · rename_i h3; rw [if_pos (.inr (mem_cellPls.2 h3))] at hq'; exact hq'
      · rename_i h3; rw [if_neg (by rintro (h | h); exact he h; exact h3 (mem_cellPls.1 h))] at hq'; exact hq'
end Go.Abs
/- Slices of numbers that are written element by element. -/
set_option linter.unusedVariables false
set_option linter.unusedSimpArgs false
namespace Go.Abs
variable {Z : Pg}
def arr (k : IntKind) (g : Nat → Int) (n : Nat) : List C := (List.range n).map fun m => C.i k (g m)
def arrR (k : IntKind) (g : Nat → Int) (n : Nat) : List (List C) := (List.range n).map fun m => [C.i k (g m)]
def upd (g : Nat → Int) (j : Nat) (v : Int) : Nat → Int := fun m => if m = j then v else g m
theorem arr_len (k : IntKind) (g : Nat → Int) (n : Nat) : (arr k g n).length = n := by simp [arr]
theorem arrR_len (k : IntKind) (g : Nat → Int) (n : Nat) : (arrR k g n).length = n := by simp [arrR]
theorem arr_get {k : IntKind} {g : Nat → Int} {n j : Nat} (h : j < n) : (arr k g n)[j]? = some (.i k (g j)) := by
  simp [arr, List.getElem?_range h]
theorem arrR_at {k : IntKind} {g : Nat → Int} {n j : Nat} (h : j < n) : (arrR k g n)[j]? = some [.i k (g j)] := by
  simp [arrR, List.getElem?_range h]
theorem arrR_take {k : IntKind} {g : Nat → Int} {n j : Nat} (h : j ≤ n) : (arrR k g n).take j = arrR k g j := by
  simp only [arrR]
  rw [← List.map_take, List.take_range, Nat.min_eq_left h]
theorem arr_at {k : IntKind} {g : Nat → Int} {n j : Nat} (h : j < n) : (arr k g n)[0 + j * 1]? = some (.i k (g j)) := by
  rw [Nat.zero_add, Nat.mul_one]; exact arr_get h
theorem arr_flat (k : IntKind) (g : Nat → Int) (n : Nat) : arr k g n = (arrR k g n).flatten := by
  simp only [arr, arrR]
  induction List.range n with
  | nil => rfl
  | cons a l ih => simp [ih]
theorem arr_ext {k : IntKind} {g g' : Nat → Int} {n : Nat} (h : ∀ m, m < n → g m = g' m) : arr k g n = arr k g' n := by
  apply List.map_congr_left
  intro m hm
  rw [h m (by simpa using hm)]
theorem arrR_ext {k : IntKind} {g g' : Nat → Int} {n : Nat} (h : ∀ m, m < n → g m = g' m) : arrR k g n = arrR k g' n := by
  apply List.map_congr_left
  intro m hm
  rw [h m (by simpa using hm)]
theorem arr_rep (k : IntKind) (n : Nat) : (List.replicate n [C.i k 0]).flatten = arr k (fun _ => 0) n := by
  apply List.ext_getElem?
  intro j
  have : (List.replicate n [C.i k 0]).flatten = List.replicate n (C.i k 0) := by
    induction n with
    | zero => rfl
    | succ n ih => rw [List.replicate_succ, List.replicate_succ, List.flatten_cons, ih]; rfl
  rw [this]
  by_cases h : j < n
  · rw [arr_get h, List.getElem?_replicate, if_pos h]
  · rw [List.getElem?_eq_none (by simp; omega), List.getElem?_eq_none (by rw [arr_len]; omega)]
theorem setAt_arr {k : IntKind} {g : Nat → Int} {n j : Nat} {v : Int} (h : j < n) : setAt (arr k g n) (0 + j * 1) [.i k v] = arr k (upd g j v) n := by
  apply List.ext_getElem?
  intro i
  rw [setAt_get _ _ _ _ (by rw [arr_len]; simp; omega)]
  simp only [Nat.zero_add, Nat.mul_one, List.length_singleton]
  by_cases hi : i < n
  · rw [arr_get hi, arr_get hi]
    split
    · rename_i h1
      have : i = j := by omega
      subst this
      simp [upd]
    · rename_i h1
      have : ¬ i = j := by omega
      simp [upd, this]
  · rw [if_neg (by omega), List.getElem?_eq_none (by rw [arr_len]; omega), List.getElem?_eq_none (by rw [arr_len]; omega)]
theorem setIf_arr {g : Nat → Int} {n : Nat} {m N c : Int} (hm : 0 ≤ m) (hN : (n : Int) = N + 1) : setIf (arr .u64 g n) m N c = arr .u64 (fun j => if (j : Int) = m then c else g j) n := by
  unfold setIf
  split
  · rename_i h
    have h1 := setAt_arr (k := .u64) (g := g) (n := n) (j := m.toNat) (v := c) (by omega)
    rw [Nat.zero_add, Nat.mul_one] at h1
    rw [h1]
    apply arr_ext
    intro j hj
    unfold upd
    by_cases e : (j : Int) = m
    · rw [if_pos (by omega), if_pos e]
    · rw [if_neg (by omega), if_neg e]
  · rename_i h
    apply arr_ext
    intro j hj
    rw [if_neg (by omega)]
section
variable {N : Nat} {ops : Array Oper} {rest : List Oper} {K : St → Prop} {st : St} {o : Oper} {d : Nat} {ty : TypeId}
theorem does_makeArr {t e by' : Nat} {x y : Operand} {ti te : TyI} {n : Nat} {m : Int} {k ke : IntKind} (hx : lk Z.T st ty x = some (true, .v (.c (.i k m)))) (hy : lk Z.T st ty y = some (true, .v (.c (.i k m))))
    (ht : tyAt Z.T t = some ti) (hel : ti.el = some (e, 1, by')) (hte : tyAt Z.T e = some te) (hz : te.z = [.i ke 0]) (hN : Nat.ble (d + 1) N = true) (hfr : st.fresh (.l d) = true) (hm : m = (n : Int)) (hbig : n * by' ≤ 140737488355328) (hmax : n ≤ 9223372036854775807) :
    Does Z N st (some d) (.makeSlice t x y) ty ((st.addBox (.l d) (arr ke (fun _ => 0) n)).put d (true, .v (.ms (.l d) 1 0 n))) := by
  have := does_makeMs (n := n) hx hy ht hel hte hN hfr hm hbig hmax
  rw [hz, arr_rep] at this
  exact this
theorem does_storeArr {t : TypeId} {x v : Operand} {n : Nm} {j len : Nat} {k : IntKind} {g : Nat → Int} {c : Int} {ti : TyI} (hx : lk Z.T st t x = some (true, .v (.ptr n (0 + j * 1)))) (hv : lk Z.T st t v = some (true, .v (.c (.i k c))))
    (hb : st.box n = some (arr k g len)) (ht : tyAt Z.T t = some ti) (hn : ti.n = 1) (hj : j < len) (hnb : (!n.isBd || !Nat.beq (0 + j * 1) 0) = true) :
    Does Z N st none (.store t x v) ty (st.store n (arr k (upd g j c) len) (0 + j * 1) 1) := by
  have := does_store (Z := Z) (N := N) (ty := ty) hx hv (ds := [.i k c]) rfl hb ht (by rw [hn]; rfl) (Nat.ble_eq_true_of_le (by rw [arr_len]; simp; omega)) hnb
  rw [setAt_arr hj] at this
  exact this
end
section
variable {N : Nat} {ops : Array Oper} {rest : List Oper} {st : St} {o : Oper} {s0 : St} {B : List Nat} {q : Nat} {acc : List Lnk} {Q : St → Prop}
theorem dr_storeArr {t : TypeId} {x v : Operand} {n : Nm} {j len : Nat} {k : IntKind} {g : Nat → Int} {c : Int} {ti : TyI} (hk : ops[q]? = some o) (ho : o.op = .store t x v) (hx0 : lk Z.T st t x = some (true, .v (.ptr n (0 + j * 1)))) (hg : gateOf ops (rs (foot ops o [n] []) st) o = some true) (hd : o.dst = none)
    (hx : lk Z.T (rs (foot ops o [n] []) st) t x = some (true, .v (.ptr n (0 + j * 1)))) (hv : lk Z.T (rs (foot ops o [n] []) st) t v = some (true, .v (.c (.i k c))))
    (hb : (rs (foot ops o [n] []) st).box n = some (arr k g len)) (ht : tyAt Z.T t = some ti) (hn : ti.n = 1) (hj : j < len) (hnb : (!n.isBd || !Nat.beq (0 + j * 1) 0) = true)
    (hr : Draw Z N s0 ops B (q + 1) rest (acc ++ [(q, { b := some (n, arr k (upd g j c) len), drop := cellPls n (0 + j * 1) 1 }, foot ops o [n] [])]) (ap { b := some (n, arr k (upd g j c) len), drop := cellPls n (0 + j * 1) 1 } st) Q) :
    Draw Z N s0 ops B q (o :: rest) acc st Q := by
  refine dr_store hk ho hx0 hg hd hx hv (ds := [.i k c]) rfl hb ht (by rw [hn]; rfl) (Nat.ble_eq_true_of_le (by rw [arr_len]; simp; omega)) ?_ hnb
  rw [setAt_arr hj]
  exact hr
end
theorem awp_freezeArr {N : Nat} {c : Code} {Q : Exit → St → Prop} {st : St} (k m : Nat) {L : Nat} {kd : IntKind} {g : Nat → Int} (hs : st.get k = some (true, .v (.ms (.l m) 1 0 L)))
    (hb : st.box (.l m) = some (arr kd g L)) (hm : L ≤ 9223372036854775807) (hfo : st.freshO (.l m, false) = true)
    (h : AWP Z N c Q (st.frz k m 1 (arrR kd g L))) : AWP Z N c Q st :=
  awp_freeze k m (arrR kd g L) hs (by rw [hb, arr_flat]) (arrR_len _ _ _) hm (fun i row hi => by
    simp only [arrR, List.getElem?_map] at hi
    cases hr : (List.range L)[i]? with
    | none => rw [hr] at hi; simp at hi
    | some x => rw [hr] at hi; simp at hi; subst hi; rfl) hfo h
theorem al_freezeArr {N : Nat} {ops : Array Oper} {rest : List Oper} {K : St → Prop} {st : St} (k m : Nat) {L : Nat} {kd : IntKind} {g : Nat → Int} (hs : st.get k = some (true, .v (.ms (.l m) 1 0 L)))
    (hb : st.box (.l m) = some (arr kd g L)) (hm : L ≤ 9223372036854775807) (hfo : st.freshO (.l m, false) = true)
    (h : AL Z N ops rest K (st.frz k m 1 (arrR kd g L))) : AL Z N ops rest K st :=
  al_freeze k m (arrR kd g L) hs (by rw [hb, arr_flat]) (arrR_len _ _ _) hm (fun i row hi => by
    simp only [arrR, List.getElem?_map] at hi
    cases hr : (List.range L)[i]? with
    | none => rw [hr] at hi; simp at hi
    | some x => rw [hr] at hi; simp at hi; subst hi; rfl) hfo h
theorem al_rename {N : Nat} {ops : Array Oper} {rest : List Oper} {K : St → Prop} {st : St} (k m m' : Nat) {sz L : Nat} {cs : List C} (hs : st.get k = some (true, .v (.ms (.l m) sz 0 L))) (hb : st.box (.l m) = some cs)
    (hfr : st.freshO (.l m', true) = true) (hfo : st.freshO (.l m, false) = true) (h : AL Z N ops rest K (st.ren k m m' sz L cs)) : AL Z N ops rest K st :=
  fun E G a w hr hE => h E _ a w (hr.rename hs hb (St.freshO_ok hfr) (St.freshO_ok hfo)) hE
theorem al_closArr {N : Nat} {ops : Array Oper} {rest : List Oper} {K : St → Prop} {st : St} {o : Oper} {d : Nat} {fo x y : Operand} {ts : Array TypeId} {f : FuncId} {a b r : Nat} (q : Nat) {m n c : Int} {len : Nat} {g : Nat → Int} {u : Value} (S : SetFn Z f)
    (ho : o.op = .call { callee := .value fo, args := #[x, y], argTypes := ts }) (hg : gateOf ops st o = some true) (hd : o.dst = some d) (hN : Nat.ble (d + 1) N = true)
    (hf : lk Z.T st 0 fo = some (true, .fn f [.ptr (.l a) 0, .ptr (.l b) 0])) (hxy : lkAll Z.T st ts.toList [x, y] = some (true, [.v (.c (.i .i64 m)), .v (.c (.i .u64 c))]))
    (hba : st.box (.l a) = some [.i .i64 n]) (hbb : st.box (.l b) = some [.o u]) (hq : st.get q = some (true, .v (.msv (.l r) 1 0 len u))) (hbr : st.box (.l r) = some (arr .u64 g len)) (hn : (len : Int) = n + 1) (hm : 0 ≤ m) (hmx : (len : Int) < 9223372036854775807)
    (h : AL Z N ops rest K ((st.store (.l r) (arr .u64 (fun j => if (j : Int) = m then c else g j) len) m.toNat 1).put d (true, .tup []))) : AL Z N ops (o :: rest) K st :=
  al_clos q S ho hg hd hN hf hxy hba hbb hq hbr (arr_len _ _ _) hn hm hmx (by rw [setIf_arr hm hn]; exact h)
theorem dr_closArr {N : Nat} {ops : Array Oper} {rest : List Oper} {st : St} {o : Oper} {s0 : St} {B : List Nat} {k : Nat} {acc : List Lnk} {Q : St → Prop} {d : Nat} {fo x y : Operand} {ts : Array TypeId} {f : FuncId} (a b r q : Nat) {m n c : Int} {len : Nat} {g : Nat → Int} {u : Value} {R : Foot} (S : SetFn Z f)
    (hR : R = { foot ops o [.l a, .l b, .l r] [] with rt := q :: slotsOf ops o }) (hk : ops[k]? = some o)
    (ho : o.op = .call { callee := .value fo, args := #[x, y], argTypes := ts }) (hg : gateOf ops (rs R st) o = some true) (hd : o.dst = some d) (hN : Nat.ble (d + 1) N = true)
    (hf : lk Z.T (rs R st) 0 fo = some (true, .fn f [.ptr (.l a) 0, .ptr (.l b) 0])) (hxy : lkAll Z.T (rs R st) ts.toList [x, y] = some (true, [.v (.c (.i .i64 m)), .v (.c (.i .u64 c))]))
    (hba : (rs R st).box (.l a) = some [.i .i64 n]) (hbb : (rs R st).box (.l b) = some [.o u]) (hq : (rs R st).get q = some (true, .v (.msv (.l r) 1 0 len u))) (hbr : (rs R st).box (.l r) = some (arr .u64 g len)) (hn : (len : Int) = n + 1) (hm : 0 ≤ m) (hmx : (len : Int) < 9223372036854775807)
    (hr : Draw Z N s0 ops B (k + 1) rest (acc ++ [(k, { d := some (d, true, .tup []), b := some (.l r, arr .u64 (fun j => if (j : Int) = m then c else g j) len), drop := .t d :: cellPls (.l r) m.toNat 1 }, R)]) (ap { d := some (d, true, .tup []), b := some (.l r, arr .u64 (fun j => if (j : Int) = m then c else g j) len), drop := .t d :: cellPls (.l r) m.toNat 1 } st) Q) :
    Draw Z N s0 ops B k (o :: rest) acc st Q :=
  dr_clos a b r q S hR hk ho hg hd hN hf hxy hba hbb hq hbr (arr_len _ _ _) hn hm hmx (by rw [setIf_arr hm hn]; exact hr)
end Go.Abs
/- Ownership in a restricted state. -/
set_option linter.unusedVariables false
set_option linter.unusedSimpArgs false
namespace Go.Abs
theorem rko {ops : Array Oper} {o : Oper} {rb : List Nm} {st : St} {p : Pl} {sz : Nat} (h : st.own p = some sz) : (rs (foot ops o rb [p]) st).own p = some sz := by
  show getO (pickO st [p]) p = some sz
  simp only [pickO, h]
  rw [getO_cons, if_pos rfl]
theorem ak2 {e : Eff} {s : St} {p : Pl} {sz : Nat} (hk : e.keeps p = true) (h : s.own p = some sz) : (ap e s).own p = some sz := by
  unfold Eff.keeps at hk
  rw [Bool.and_eq_true] at hk
  obtain ⟨h1, h2⟩ := hk
  rw [ap_own, Eff.go]
  have hd : ¬ p ∈ e.drop := by
    intro hp
    have : e.drop.any (Pl.beq p) = true := List.any_eq_true.2 ⟨p, hp, Pl.beq_self p⟩
    rw [this] at h1; simp at h1
  cases hg : e.gain with
  | none => dsimp only; rw [if_neg hd]; exact h
  | some x =>
    obtain ⟨q, y⟩ := x
    rw [hg] at h2
    dsimp only at h2 ⊢
    have hq : ¬ q = p := by
      intro z; subst z; rw [Pl.beq_self] at h2; simp at h2
    rw [if_neg hq, if_neg hd]; exact h
end Go.Abs
/- Contracts of library functions, turned into contracts of the frame. -/
set_option linter.unusedVariables false
set_option linter.unusedSimpArgs false
namespace Go.Abs
open Go.RowKit (Below)
variable {Z : Pg}
/-- A block that holds a number first. -/
def intAt (b : Option Obj) : Prop := ∃ cs t s m, b = some (.cells cs t s) ∧ cs[0]? = some (.int .i64 m)
/-- A block that holds just these cells. -/
def rowIs (vs : Array Value) (b : Option Obj) : Prop := ∃ t s, b = some (.cells vs t s)
theorem intAt.cell {w : World} {g : Nat} (h : intAt w.heap[g]?) : ∃ m, w.cell? ⟨g, 0, none⟩ = some (.int .i64 m) := by
  obtain ⟨cs, t, s, m, h1, h2⟩ := h
  exact ⟨m, by unfold World.cell?; rw [h1]; simpa using h2⟩
theorem intAt.of {w : World} {g : Nat} {m : Int} (h : w.cell? ⟨g, 0, none⟩ = some (.int .i64 m)) : intAt w.heap[g]? := by
  unfold World.cell? at h
  dsimp only at h
  split at h
  · rename_i cs t s hb
    exact ⟨cs, t, s, m, hb, by simpa using h⟩
  · simp at h
theorem Fr.ofBelow {M : Nat → Nat → Prop} {w w' : World} (h : Below w.heap.size w w') : Fr M w.heap.size w w' where
  os := h.os
  tape := h.tape
  output := h.output
  size := h.size
  block := fun b hb _ => h.block b hb
  cell := fun b o hb _ => by unfold World.cell?; rw [h.block b hb]
  mark := fun b hb => by unfold markOf; rw [h.block b hb]
  shape := fun b hb => by unfold World.shape?; rw [h.block b hb]
/-- A function that turns nothing that was there, and whose result holds in every world. -/
theorem ctr_below {f : FuncId} {args : List X} {res : X} {v : Value} (hen : Enters Z f)
    (hc : ∀ (w : World) (G : Gh) (vs : List Value), All2 (XRep w G) args vs → (∀ b o, G.W b o ≠ .none → b < w.heap.size) → GlOk Z w G → Calls Z.P f vs.toArray w fun e w' => e = .returned v ∧ Below w.heap.size w w') (hr : ∀ w G, XRep w G res v) : Ctr Z f args [] res none [] := by
  refine ⟨hen, fun w G vs hvs hwf hbx hbox hown hgl => ?_⟩
  refine (hc w G vs hvs hwf hgl).mono ?_
  rintro e w' ⟨rfl, hb⟩
  exact ⟨v, G, rfl, Fr.ofBelow hb, fun _ _ h => h, fun _ _ _ h => h, fun b o h => Nat.lt_of_lt_of_le (hwf b o h) hb.size, hr _ _, fun _ => rfl, fun j cs h => by simp at h, fun sz h => by simp at h, fun b o h => absurd h (hown b o _)⟩
theorem below_alloc (w : World) (o : Obj) : Below w.heap.size w (w.alloc o) := (Below.refl _ w).alloc (Nat.le_refl _) o
/-- A function that lays one row of new cells, of one cell each, and hands back the slice of them all. -/
theorem ctr_alloc {f : FuncId} {args : List X} {cs : List C} {vals : List Value} {ty : TypeId} (hen : Enters Z f) (hlen : vals.length ≤ 9223372036854775807) (hv : ∀ w S, All2 (CRep w S) cs vals)
    (hc : ∀ (w : World) (G : Gh) (vs : List Value), All2 (XRep w G) args vs → GlOk Z w G → Calls Z.P f vs.toArray w fun e w' => e = .returned (.slice (some ⟨w.heap.size, 0, none⟩) vals.length vals.length) ∧ w' = w.alloc (.cells vals.toArray ty)) :
    Ctr Z f args [] (.v (.c (.sl 1 (cs.map fun c => [c])))) none [] := by
  refine ⟨hen, fun w G vs hvs hwf hbx hbox hown hgl => ?_⟩
  refine (hc w G vs hvs hgl).mono ?_
  rintro e w' ⟨rfl, rfl⟩
  have hb := below_alloc w (.cells vals.toArray ty)
  have hnew : ∀ j, (w.alloc (.cells vals.toArray ty)).cell? ⟨w.heap.size, j, none⟩ = vals[j]? := by
    intro j
    unfold World.cell?
    rw [World.alloc_heap_new]
    simp
  have hsz : (w.alloc (.cells vals.toArray ty)).heap.size = w.heap.size + 1 := by simp
  let G' : Gh := { G with W := fun b o => if b = w.heap.size then .imm else G.W b o }
  have hl : cs.length = vals.length := (hv w G.S).len
  refine ⟨_, G', rfl, Fr.ofBelow hb, fun b o h => ?_, fun b o hlt h => ?_, fun b o h => ?_, ?_, fun _ => rfl, fun j cs h => by simp at h, fun sz h => by simp at h, fun b o h => ?_⟩
  · show (if b = w.heap.size then Who.imm else G.W b o) = .imm
    split
    · rfl
    · exact h
  · have h2 : (if b = w.heap.size then Who.imm else G.W b o) = .imm := h
    rwa [if_neg (Nat.ne_of_lt hlt)] at h2
  · have h2 : (if b = w.heap.size then Who.imm else G.W b o) ≠ .none := h
    split at h2
    · rw [hsz]; omega
    · have := hwf b o h2; rw [hsz]; omega
  · show CRep _ _ (.sl 1 (cs.map fun c => [c])) _
    refine .sl 1 _ w.heap.size 0 vals.length vals.length (fun i j => vals.getD i (.bool false)) (by simpa using hl) (Nat.le_refl _) hlen (fun i row h => ?_) (fun i j hi hj => ?_) (fun i row j c h1 h2 => ?_)
    · rw [List.getElem?_map, Option.map_eq_some_iff] at h
      obtain ⟨a, _, rfl⟩ := h
      rfl
    · refine ⟨?_, ?_⟩
      · show (if w.heap.size = w.heap.size then Who.imm else _) = .imm
        rw [if_pos rfl]
      · rw [hnew, List.getD_eq_getElem?_getD]
        obtain rfl : j = 0 := by omega
        rw [show 0 + i * 1 + 0 = i by omega, List.getElem?_eq_getElem hi]; rfl
    · rw [List.getElem?_map, Option.map_eq_some_iff] at h1
      obtain ⟨a, ha, rfl⟩ := h1
      cases j with
      | succ j => simp at h2
      | zero =>
        simp only [List.getElem?_cons_zero, Option.some.injEq] at h2
        subst h2
        obtain ⟨v, hv1, hv2⟩ := (hv (w.alloc (.cells vals.toArray ty)) G'.S).get i a ha
        rw [List.getD_eq_getElem?_getD, hv1]
        exact hv2
  · have h2 : (if b = w.heap.size then Who.imm else G.W b o) = .own (.t 0) := h
    split at h2
    · cases h2
    · exact absurd h2 (hown b o _)
/-- A contract holds where more is known of package variables. -/
theorem Ctr.wk {Z Z' : Pg} {f : FuncId} {args : List X} {bs bs' : List (List C)} {res : X} {ro : Option Nat} (hP : Z'.P = Z.P) (hg : ∀ g ∈ Z.gv, g ∈ Z'.gv) (h : Ctr Z f args bs res ro bs') : Ctr Z' f args bs res ro bs' := by
  obtain ⟨⟨fn, h1, h2, h3⟩, h4⟩ := h
  refine ⟨⟨fn, by rw [hP]; exact h1, h2, h3⟩, fun w G vs a b c d e g => ?_⟩
  rw [hP]
  exact h4 w G vs a b c d e fun x hx => g x (hg x hx)
end Go.Abs
/- Writing a string into a Builder within a drawn region. -/
set_option linter.unusedVariables false
set_option linter.unusedSimpArgs false
namespace Go.Abs
variable {Z : Pg}
section
variable {N : Nat} {st : St} {ops : Array Oper} {o : Oper} {d k : Nat} {fo x y : Operand} {ts : Array TypeId} {m : List UInt8}
theorem op1_bws (B : BdSys Z) {l : List UInt8} (ho : o.op = .call { callee := .value fo, args := #[x, y], argTypes := ts }) (hg : gateOf ops st o = some true) (hd : o.dst = some d) (hN : Nat.ble (d + 1) N = true)
    (hf : lk Z.T st 0 fo = some (true, .fn B.fW [])) (ha : lkAll Z.T st ts.toList [x, y] = some (true, [.v (.ptr (.bd B.tN k) 0), .v (.c (.s l))]))
    (hb : st.box (.bd B.tN k) = some [.bl, .sl 1 (bytesR m)]) (hw : st.own (.b (.bd B.tN k) 1) = some 1) (hlen : m.length + l.length ≤ 140737488355328) :
    Op1 Z N ops o st ((st.bw B.tN k (m ++ l)).put d (true, .tup [.c (.i .i64 (l.length : Int)), .c (.o .nilIface)])) := by
  intro E G a w hr hE K' Q' hK
  have hdN : d < E.nt := by rw [hE.nt]; exact Nat.le_of_ble_eq_true hN
  rw [wanted_gate hr hg]
  simp only [if_true]
  obtain ⟨cvs, hfv, hcv⟩ := lk_rep hr hf rfl
  have hcv0 : cvs = [] := by cases cvs with
    | nil => rfl
    | cons _ _ => exact hcv.elim
  subst hcv0
  obtain ⟨hx, hy, _⟩ := lkAll_rep hr ha rfl
  have hx1 : a.eval x = _ := hx
  have hy1 := XRep.str hy
  unfold Oper.wp
  rw [run_call ho hfv B.enW, Oper.upon_enter]
  obtain ⟨w0, v', uo, un, uc, w1, hck, hsh, hfz, hA0, hc0, hrun, hc1, hf1, G1, hrel⟩ := bd_write B hr hb hw (l := l) (tx := B.tStr) (xv := fun _ => .string ⟨l.toArray⟩) (news := byteCells ⟨l.toArray⟩) (pre := fun w => w)
    (fun w0 h0 => ⟨h0, by
      have := Src.ofString (P := Z.P) w0 B.hstr ⟨l.toArray⟩
      rw [size_mk] at this
      rw [bytesR_len]; exact this, fun _ _ _ => rfl⟩) (fun w' => bytes_src l) hlen
  have hcall := B.ws (G.A (.bd B.tN k)).1 w w0 w1 v' uo un uc ⟨l.toArray⟩ hck hsh hfz hc0 hrun hc1 hf1
  have hargs : ((#[x, y] : Array Operand).toList.map a.eval ++ []).toArray = #[.pointer (some ⟨(G.A (.bd B.tN k)).1, 0, none⟩), .string ⟨l.toArray⟩] := by
    simp [hx1, hy1, hA0]
  rw [hargs]
  refine hcall.mono ?_
  rintro e w' ⟨rfl, rfl⟩
  dsimp only
  rw [hd] at hK ⊢
  refine hK G1 _ _ (hrel.put hdN (g := true) (fun _ => ?_) (fun hf => by simp at hf))
  exact ⟨[.int .i64 (l.length : Int), .nilIface], by rw [size_mk], CRep.i _ _, CRep.o _ rfl, trivial⟩


theorem ls_bws (B : BdSys Z) {R : Foot} {l : List UInt8} (ho : o.op = .call { callee := .value fo, args := #[x, y], argTypes := ts }) (hg : gateOf ops (rs R st) o = some true) (hd : o.dst = some d) (hN : Nat.ble (d + 1) N = true)
    (hf : lk Z.T (rs R st) 0 fo = some (true, .fn B.fW [])) (ha : lkAll Z.T (rs R st) ts.toList [x, y] = some (true, [.v (.ptr (.bd B.tN k) 0), .v (.c (.s l))]))
    (hb : (rs R st).box (.bd B.tN k) = some [.bl, .sl 1 (bytesR m)]) (hw : (rs R st).own (.b (.bd B.tN k) 1) = some 1) (hlen : m.length + l.length ≤ 140737488355328) :
    LS Z N ops o { d := some (d, true, .tup [.c (.i .i64 (l.length : Int)), .c (.o .nilIface)]), b := some (.bd B.tN k, [.bl, .sl 1 (bytesR (m ++ l))]), drop := .t d :: cellPls (.bd B.tN k) 0 2, gain := some (.b (.bd B.tN k) 1, 1) } R st := by
  intro s2 hag _
  refine (op1_bws B (st := s2) ho (gateOf_sub hag.sub hg) hd hN (lk_sub hag.sub hf) (lkAll_sub hag.sub ha) (hag.sub.bx _ _ hb) (hag.sub.ow _ _ hw) hlen).sub ⟨?_, ?_, ?_, by exact .inr rfl⟩
  · intro j e hj
    rw [ap_get] at hj
    rw [St.put_get]
    simp only [Eff.gt] at hj
    by_cases h : d = j
    · subst h; simpa using hj
    · have h' : ¬ j = d := fun e => h e.symm
      rw [if_neg h']
      show s2.get j = _
      simpa [h] using hj
  · intro m' ds hm
    rw [ap_box] at hm
    show (s2.store (.bd B.tN k) [.bl, .sl 1 (bytesR (m ++ l))] 0 2).box m' = _
    rw [St.store_box]
    simp only [Eff.gb] at hm
    split
    · rename_i he; rw [if_pos he] at hm; exact hm
    · rename_i he; rw [if_neg he] at hm; exact hm
  · intro q s hq
    rw [ap_own] at hq
    rw [St.put_own]
    simp only [Eff.go, List.mem_cons] at hq
    by_cases hgq : (Pl.b (.bd B.tN k) 1) = q
    · rw [if_pos hgq] at hq
      subst hgq
      rw [if_neg (by intro e; cases e)]
      unfold St.bw
      rw [St.addOwn_own, if_pos rfl]
      exact hq
    · rw [if_neg hgq] at hq
      split
      · rename_i he; rw [if_pos (.inl he)] at hq; exact hq
      · rename_i he
        unfold St.bw
        rw [St.addOwn_own, if_neg hgq, St.store_own]
        split
        · rename_i h3; rw [if_pos (.inr (mem_cellPls.2 h3))] at hq; exact hq
        · rename_i h3; rw [if_neg (by rintro (h | h); exact he h; exact h3 (mem_cellPls.1 h))] at hq; exact hq
end
theorem dr_bws {s0 : St} {N : Nat} {ops : Array Oper} {L : List Nat} {i k d : Nat} {rest : List Oper} {acc : List (Nat × Eff × Foot)} {st : St} {o : Oper} {Q : St → Prop} {fo x y : Operand} {ts : Array TypeId} {m : List UInt8} (B : BdSys Z) {l : List UInt8} (hk : ops[i]? = some o)
    (ho : o.op = .call { callee := .value fo, args := #[x, y], argTypes := ts }) (hg : gateOf ops (rs (foot ops o [.bd B.tN k] [.b (.bd B.tN k) 1]) st) o = some true) (hd : o.dst = some d) (hN : Nat.ble (d + 1) N = true)
    (hf : lk Z.T (rs (foot ops o [.bd B.tN k] [.b (.bd B.tN k) 1]) st) 0 fo = some (true, .fn B.fW [])) (ha : lkAll Z.T (rs (foot ops o [.bd B.tN k] [.b (.bd B.tN k) 1]) st) ts.toList [x, y] = some (true, [.v (.ptr (.bd B.tN k) 0), .v (.c (.s l))]))
    (hb : (rs (foot ops o [.bd B.tN k] [.b (.bd B.tN k) 1]) st).box (.bd B.tN k) = some [.bl, .sl 1 (bytesR m)]) (hw : (rs (foot ops o [.bd B.tN k] [.b (.bd B.tN k) 1]) st).own (.b (.bd B.tN k) 1) = some 1) (hlen : m.length + l.length ≤ 140737488355328)
    (hr : Draw Z N s0 ops L (i + 1) rest (acc ++ [(i, { d := some (d, true, .tup [.c (.i .i64 (l.length : Int)), .c (.o .nilIface)]), b := some (.bd B.tN k, [.bl, .sl 1 (bytesR (m ++ l))]), drop := .t d :: cellPls (.bd B.tN k) 0 2, gain := some (.b (.bd B.tN k) 1, 1) }, foot ops o [.bd B.tN k] [.b (.bd B.tN k) 1])])
      (ap { d := some (d, true, .tup [.c (.i .i64 (l.length : Int)), .c (.o .nilIface)]), b := some (.bd B.tN k, [.bl, .sl 1 (bytesR (m ++ l))]), drop := .t d :: cellPls (.bd B.tN k) 0 2, gain := some (.b (.bd B.tN k) 1, 1) } st) Q) :
    Draw Z N s0 ops L i (o :: rest) acc st Q := dr_cons hk (ls_bws B ho hg hd hN hf ha hb hw hlen) hr
end Go.Abs
/- The program of this seat, as the abstract machine sees it: its types, and that the table is right. -/
set_option linter.unusedVariables false
set_option linter.unusedSimpArgs false
namespace Go.Proofs.YthfoclblmdnckaaDoor
open Go Go.Abs
def tab : List (Option TyI) := [none,
  none,
  some { n := 1, agg := false, offs := [], el := none, z := [.i .i64 0] },
  some { n := 1, agg := false, offs := [], el := none, z := [.i .i64 0] },
  some { n := 1, agg := false, offs := [], el := none, z := [.b false] },
  some { n := 1, agg := false, offs := [], el := none, z := [.i .u8 0] },
  some { n := 1, agg := false, offs := [], el := none, z := [.i .u8 0] },
  some { n := 4, agg := true, offs := [0, 1, 2, 3], el := none, z := [.i .i64 0, .i .i64 0, .b false, .i .u8 0] },
  some { n := 4, agg := true, offs := [0, 1, 2, 3], el := none, z := [.i .i64 0, .i .i64 0, .b false, .i .u8 0] },
  some { n := 1, agg := false, offs := [], el := none, z := [.s []] },
  some { n := 1, agg := false, offs := [], el := none, z := [.s []] },
  some { n := 1, agg := false, offs := [], el := none, z := [.s []] },
  some { n := 1, agg := false, offs := [], el := none, z := [.i .u64 0] },
  some { n := 2, agg := true, offs := [0, 1], el := none, z := [.s [], .i .u64 0] },
  some { n := 2, agg := true, offs := [0, 1], el := none, z := [.s [], .i .u64 0] },
  some { n := 1, agg := false, offs := [], el := none, z := [.o (.pointer none)] },
  some { n := 1, agg := false, offs := [], el := none, z := [.o (.pointer none)] },
  some { n := 1, agg := false, offs := [], el := none, z := [.o (.pointer none)] },
  some { n := 1, agg := true, offs := [0], el := none, z := [.o (.pointer none)] },
  some { n := 1, agg := true, offs := [0], el := none, z := [.o (.pointer none)] },
  none,
  some { n := 1, agg := false, offs := [], el := none, z := [.i .i32 0] },
  some { n := 1, agg := false, offs := [], el := some (51, 1, 24), z := [.sl 1 []] },
  none,
  some { n := 1, agg := false, offs := [], el := some (47, 2, 40), z := [.sl 2 []] },
  none,
  some { n := 1, agg := false, offs := [], el := none, z := [.i .i64 0] },
  none,
  none,
  none,
  none,
  none,
  none,
  none,
  none,
  some { n := 1, agg := false, offs := [], el := some (5, 1, 1), z := [.sl 1 []] },
  none,
  none,
  none,
  none,
  none,
  none,
  none,
  some { n := 1, agg := false, offs := [], el := some (9, 1, 16), z := [.sl 1 []] },
  some { n := 1, agg := false, offs := [], el := some (45, 1, 24), z := [.sl 1 []] },
  some { n := 1, agg := false, offs := [], el := some (53, 5, 48), z := [.sl 5 []] },
  some { n := 2, agg := true, offs := [0, 1], el := none, z := [.s [], .sl 5 []] },
  some { n := 2, agg := true, offs := [0, 1], el := none, z := [.s [], .sl 5 []] },
  none,
  none,
  none,
  some { n := 1, agg := false, offs := [], el := some (56, 3, 3), z := [.sl 3 []] },
  some { n := 5, agg := true, offs := [0, 1, 2, 3, 4], el := none, z := [.i .i64 0, .s [], .i .i64 0, .i .i64 0, .i .i64 0] },
  some { n := 5, agg := true, offs := [0, 1, 2, 3, 4], el := none, z := [.i .i64 0, .s [], .i .i64 0, .i .i64 0, .i .i64 0] },
  none,
  some { n := 3, agg := true, offs := [0, 1, 2], el := none, z := [.i .u8 0, .i .u8 0, .i .u8 0] },
  some { n := 3, agg := true, offs := [0, 1, 2], el := none, z := [.i .u8 0, .i .u8 0, .i .u8 0] },
  some { n := 1, agg := false, offs := [], el := none, z := [.o (.pointer none)] },
  some { n := 2, agg := true, offs := [0, 1], el := none, z := [.o (.pointer none), .sl 1 []] },
  some { n := 2, agg := true, offs := [0, 1], el := none, z := [.o (.pointer none), .sl 1 []] },
  none,
  none,
  none,
  none,
  none,
  none,
  none,
  none,
  none,
  none,
  none,
  none,
  none,
  none,
  none,
  none,
  none,
  none,
  none,
  none,
  none,
  some { n := 1, agg := false, offs := [], el := none, z := [.o (.map none)] },
  none,
  none,
  none,
  some { n := 1, agg := false, offs := [], el := none, z := [.o (.pointer none)] },
  none,
  none,
  none,
  none,
  none,
  none,
  none,
  some { n := 1, agg := false, offs := [], el := none, z := [.i .u64 0] },
  none,
  none,
  none,
  none,
  none,
  none,
  none,
  none,
  none,
  none,
  none,
  none,
  none,
  none,
  some { n := 1, agg := false, offs := [], el := none, z := [.i .u64 0] },
  none,
  none,
  none,
  none,
  some { n := 1, agg := false, offs := [], el := none, z := [.i .u32 0] },
  none,
  none,
  some { n := 1, agg := false, offs := [], el := none, z := [.i .i64 0] },
  none,
  none,
  some { n := 1, agg := false, offs := [], el := none, z := [.o (.pointer none)] },
  none,
  none,
  none,
  none,
  none,
  none,
  none,
  none,
  some { n := 2, agg := true, offs := [0, 1], el := none, z := [.i .u8 0, .i .u8 0] },
  some { n := 2, agg := true, offs := [0, 1], el := none, z := [.i .u8 0, .i .u8 0] },
  none,
  none,
  none,
  some { n := 3, agg := true, offs := [0, 1, 2], el := none, z := [.s [], .s [], .o .nilIface] },
  some { n := 3, agg := true, offs := [0, 1, 2], el := none, z := [.s [], .s [], .o .nilIface] },
  none,
  none,
  none,
  some { n := 1, agg := false, offs := [], el := none, z := [.o (.pointer none)] },
  some { n := 1, agg := true, offs := [0], el := none, z := [.s []] },
  some { n := 1, agg := true, offs := [0], el := none, z := [.s []] },
  none,
  none,
  some { n := 4, agg := true, offs := [0, 1, 2, 3], el := none, z := [.o (.pointer none), .o (.pointer none), .o (.pointer none), .s []] },
  some { n := 4, agg := true, offs := [0, 1, 2, 3], el := none, z := [.o (.pointer none), .o (.pointer none), .o (.pointer none), .s []] },
  none,
  none,
  none,
  none,
  some { n := 1, agg := false, offs := [], el := none, z := [.i .u8 0] },
  some { n := 1, agg := false, offs := [], el := none, z := [.i .u8 0] },
  none,
  some { n := 1, agg := false, offs := [], el := none, z := [.i .i32 0] },
  some { n := 1, agg := false, offs := [], el := none, z := [.i .i32 0] },
  some { n := 11, agg := true, offs := [0, 1, 2, 3, 4, 5, 6, 7, 8, 9, 10], el := none, z := [.i .u64 0, .i .u64 0, .i .u32 0, .i .u8 0, .i .u8 0, .i .u8 0, .i .u8 0, .o .nilFunc, .o (.pointer none), .i .i32 0, .i .i32 0] },
  some { n := 11, agg := true, offs := [0, 1, 2, 3, 4, 5, 6, 7, 8, 9, 10], el := none, z := [.i .u64 0, .i .u64 0, .i .u32 0, .i .u8 0, .i .u8 0, .i .u8 0, .i .u8 0, .o .nilFunc, .o (.pointer none), .i .i32 0, .i .i32 0] }]
theorem tab_ok : tabFrom Tryd.prog 0 tab = true := by kernel_rfl
theorem mix_ok : Tryd.prog.follows .mixedOrders = true := by kernel_rfl
noncomputable def sys : Pg := { P := Tryd.prog, T := tab, ok := tab_ok, mix := mix_ok, gv := [(0, intAt), (1, rowIs (Lib.pow10Tab.map fun z => Value.int .u64 z).toArray)] }
theorem nn : (∀ a b : Bool, ((a && b) = true) = (a = true ∧ b = true)) ∧ (∀ a b : Bool, ((a || b) = true) = (a = true ∨ b = true)) ∧ (∀ b : Bool, ((!b) = true) = (b = false)) ∧ (∀ b : Bool, ((!b) = false) = (b = true)) ∧
    (∀ x y : Bool, (x || y) = false ↔ x = false ∧ y = false) ∧ (∀ x y : Bool, (x && y) = false ↔ x = false ∨ y = false) ∧ (∀ (p : Prop) [Decidable p], (decide p = true) = p) ∧ (∀ (p : Prop) (x : Decidable p), decide p = false ↔ ¬p) ∧
    (∀ (α : Type) [BEq α] [LawfulBEq α] (a b : α), (a == b) = true ↔ a = b) ∧ (∀ (α : Type) [BEq α] [LawfulBEq α] (a b : α), (a == b) = false ↔ a ≠ b) ∧ (∀ (α : Type) [BEq α] [LawfulBEq α] (a b : α), (a != b) = true ↔ a ≠ b) ∧
    (∀ (α : Type) [BEq α] [LawfulBEq α] (a b : α), (a != b) = false ↔ a = b) ∧ (∀ (α : Type) (a b : α), (a ≠ b) = ¬a = b) ∧ (∀ (p : Prop) [Decidable p], ¬¬p ↔ p) ∧ ((!true) = false) ∧ (!false) = true :=
  ⟨Bool.and_eq_true, Bool.or_eq_true, Bool.not_eq_true', Bool.not_eq_false', fun _ _ => Bool.or_eq_false_iff, fun _ _ => Bool.and_eq_false_iff, fun _ _ => decide_eq_true_eq, fun _ _ => decide_eq_false_iff_not, fun _ _ _ _ _ => beq_iff_eq, fun _ _ _ _ _ => beq_eq_false_iff_ne,
    fun _ _ _ _ _ => bne_iff_ne, fun _ _ _ _ _ => bne_eq_false_iff_eq, fun _ a b => ne_eq a b, fun _ _ => Decidable.not_not, rfl, rfl⟩
abbrev xi (n : Int) : X := .v (.c (.i .i64 n))
abbrev xb (b : Bool) : X := .v (.c (.b b))
abbrev xs (l : List UInt8) : X := .v (.c (.s l))
theorem xi_eq {a b : Int} (h : a = b) : xi a = xi b := by rw [h]
theorem tx {x y : X} (h : x = y) : (true, x) = (true, y) := by rw [h]
theorem xb_eq {a b : Bool} (h : a = b) : xb a = xb b := by rw [h]
end Go.Proofs.YthfoclblmdnckaaDoor
/- Names: of the reference, and of formats. -/
set_option linter.unusedVariables false
set_option linter.unusedSimpArgs false
namespace Go.Proofs.YthfoclblmdnckaaDoor
open Go Go.Abs
abbrev xu (n : Int) : X := .v (.c (.i .u8 n))
def letterB (n : Int) : Bool := (decide (97 ≤ n) && decide (n ≤ 122)) || (decide (65 ≤ n) && decide (n ≤ 90))
def digitB (n : Int) : Bool := decide (48 ≤ n) && decide (n ≤ 57)
def partB (n : Int) : Bool := ((letterB n || digitB n) || n == 95) || n == 35
def nameB (l : List UInt8) : Bool := decide (l.length ≠ 0) && decide (l.length ≤ 24) && letterB ((l.getD 0 0).toNat : Int) && l.all fun b => partB (b.toNat : Int)
def noHash (l : List UInt8) : Bool := l.all fun b => (b.toNat : Int) != 35
/-- The name of a format. -/
def fnameB (l : List UInt8) : Bool := noHash l && nameB l
theorem drop_getD {α : Type} [Inhabited α] {l : List α} {k : Nat} (h : k < l.length) : l.drop k = l.getD k default :: l.drop (k + 1) := by
  rw [List.drop_eq_getElem_cons h, List.getD_eq_getElem?_getD, List.getElem?_eq_getElem h]; rfl
theorem drop_get0 {l : List UInt8} {k : Nat} (h : k < l.length) : l.drop k = l.getD k 0 :: l.drop (k + 1) := by
  rw [List.drop_eq_getElem_cons h, List.getD_eq_getElem?_getD, List.getElem?_eq_getElem h]; rfl
theorem all_get {l : List UInt8} {p : UInt8 → Bool} (h : ∀ j, j < l.length → p (l.getD j 0) = true) : l.all p = true := by
  rw [List.all_eq_true]
  intro x hx
  obtain ⟨j, hj⟩ := List.getElem?_of_mem hx
  have hlt := (List.getElem?_eq_some_iff.1 hj).1
  have := h j hlt
  rwa [List.getD_eq_getElem?_getD, hj] at this
theorem all_get_not {l : List UInt8} {p : UInt8 → Bool} {j : Nat} (hj : j < l.length) (h : p (l.getD j 0) = false) : l.all p = false := by
  rw [List.all_eq_false]
  refine ⟨l.getD j 0, ?_, by rw [h]; simp⟩
  rw [List.getD_eq_getElem?_getD, List.getElem?_eq_getElem hj]
  exact List.getElem_mem hj
theorem letter_spec (n : Int) : Ctr sys 72 [xu n] [] (xb (letterB n)) none [] := by
  refine spec_intro Tryd.func72 rfl rfl rfl rfl rfl rfl ?_
  refine awp_seq (awp_region ?_)
  refine al_pure rfl rfl rfl (pure_assign rfl gU) ?_
  refine al_nil ?_
  refine awp_seq (awp_region ?_)
  refine al_pure rfl rfl rfl (pure_move rfl gU) ?_
  refine al_pure rfl rfl rfl (pure_cmp rfl rfl gU gU rfl) ?_
  refine al_pure rfl rfl rfl (pure_move rfl gU) ?_
  refine al_pure rfl rfl rfl (pure_move rfl gU) ?_
  refine al_pure rfl rfl rfl (pure_cmp rfl rfl (fun hh => hh) gU rfl) ?_
  refine al_pure rfl rfl rfl (pure_and rfl rfl gU (fun _ hi => gP rfl hi)) ?_
  refine al_pure rfl rfl rfl (pure_move rfl gU) ?_
  refine al_pure rfl rfl rfl (pure_move rfl gU) ?_
  refine al_pure rfl rfl rfl (pure_cmp rfl rfl (fun hh => hh) gU rfl) ?_
  refine al_pure rfl rfl rfl (pure_move rfl (fun hh => hh)) ?_
  refine al_pure rfl rfl rfl (pure_move rfl gU) ?_
  refine al_pure rfl rfl rfl (pure_cmp rfl rfl (fun hh => hh) gU rfl) ?_
  refine al_pure rfl rfl rfl (pure_and rfl rfl (fun hh => hh) (fun hh hi => gP hh hi)) ?_
  refine al_pure rfl rfl rfl (pure_or rfl rfl gU (fun _ hi => gP rfl hi)) ?_
  refine al_pure rfl rfl rfl (pure_assign rfl gU) ?_
  refine al_nil ?_
  refine awp_ret ?_
  repeat (first | refine tR ?_ | refine bR ?_)
  refine ret_ok rfl ?_ trivial
  rfl
theorem digit_spec (n : Int) : Ctr sys 73 [xu n] [] (xb (digitB n)) none [] := by
  refine spec_intro Tryd.func73 rfl rfl rfl rfl rfl rfl ?_
  refine awp_seq (awp_region ?_)
  refine al_pure rfl rfl rfl (pure_assign rfl gU) ?_
  refine al_nil ?_
  refine awp_seq (awp_region ?_)
  refine al_pure rfl rfl rfl (pure_move rfl gU) ?_
  refine al_pure rfl rfl rfl (pure_cmp rfl rfl gU gU rfl) ?_
  refine al_pure rfl rfl rfl (pure_move rfl gU) ?_
  refine al_pure rfl rfl rfl (pure_move rfl gU) ?_
  refine al_pure rfl rfl rfl (pure_cmp rfl rfl (fun hh => hh) gU rfl) ?_
  refine al_pure rfl rfl rfl (pure_and rfl rfl gU (fun _ hi => gP rfl hi)) ?_
  refine al_pure rfl rfl rfl (pure_assign rfl gU) ?_
  refine al_nil ?_
  refine awp_ret ?_
  repeat (first | refine tR ?_ | refine bR ?_)
  refine ret_ok rfl ?_ trivial
  rfl
theorem isName_spec (l : List UInt8) : Ctr sys 60 [xs l] [] (xb (nameB l)) none [] := by
  refine spec_intro Tryd.func60 rfl rfl rfl rfl rfl rfl ?_
  refine awp_seq (awp_region ?_)
  refine al_pure rfl rfl rfl (pure_assign rfl gU) ?_
  refine al_nil ?_
  refine awp_seq ?_
  refine awp_seq (awp_region ?_)
  refine al_pure rfl rfl rfl (pure_move rfl gU) ?_
  refine al_lenS rfl rfl rfl rfl rfl gU (Tryd.underlying9) ?_ (fun hh => by simp at hh); intro hlen
  refine al_pure rfl rfl rfl (pure_cmp rfl rfl gU gU rfl) ?_
  refine al_pure rfl rfl rfl (pure_move rfl gU) ?_
  refine al_pure rfl rfl rfl (pure_move rfl gU) ?_
  refine al_pure rfl rfl rfl (pure_lenS rfl (fun hh => hh) (Tryd.underlying9)) ?_
  refine al_pure rfl rfl rfl (pure_cmp rfl rfl (fun hh => hh) gU rfl) ?_
  refine al_pure rfl rfl rfl (pure_or rfl rfl gU (fun _ hi => gP rfl hi)) ?_
  refine al_pure rfl rfl rfl (pure_move rfl gU) ?_
  refine al_pure rfl rfl rfl (pure_move rfl gU) ?_
  refine al_pure rfl rfl rfl (pure_indexSg (j := 0) rfl rfl (fun hh => hh) gU Tryd.underlying9 (by first | omega | (simp at hh; exact List.length_pos_iff.2 hh.1)) (fun hh => by first | omega | (simp at hh; exact List.length_pos_iff.2 hh.1))) ?_
  refine al_sub (s := { t := [(0, _, _), (12, _, _), (14, _, _)], bx := [], ow := [] }) (sub_mk (⟨sx rfl, ⟨sx rfl, ⟨sx rfl, trivial⟩⟩⟩) trivial trivial) ?_
  refine al_call rfl rfl rfl rfl rfl rfl gU (fun hh => gA ((fun hh => hh) hh) (rfl)) (letter_spec _) rfl ?_
  refine al_pure rfl rfl rfl (pure_not rfl (fun hh => hh)) ?_
  refine al_pure rfl rfl rfl (pure_or rfl rfl gU (fun _ hi => gP rfl hi)) ?_
  refine al_nil ?_
  refine awp_cond rfl (fun hc => ?_) (fun hc => ?_)
  · refine awp_seq (awp_region ?_)
    refine al_pure rfl rfl rfl (pure_assign rfl gU) ?_
    refine al_nil ?_
    refine awp_ret ?_
    repeat (first | refine tR ?_ | refine bR ?_)
    refine ret_ok rfl ?_ trivial
    exact xb_eq (by simp [nameB]; grind)
  · refine awp_skip ?_
    refine awp_seq ?_
    refine awp_seq (awp_region ?_)
    refine al_pure rfl rfl rfl (pure_assign rfl gU) ?_
    refine al_nil ?_
    refine awp_block ?_
    refine awp_for (ι := Nat) { t := [(0, _, _)], bx := [], ow := [] } (fun k => [(3, true, xi (k : Int))]) (fun k => []) (fun k => k ≤ l.length ∧ (l.drop k).all (fun b => partB (b.toNat : Int)) = l.all (fun b => partB (b.toNat : Int))) (fun k => l.length - k) (0) (by simp) (sub_mk (⟨sx rfl, ⟨sx rfl, trivial⟩⟩) trivial trivial) ?_
    intro k hok
    dsimp only [List.cons_append, List.nil_append]
    obtain ⟨hk, hi⟩ := hok
    refine awp_seq ?_
    refine awp_seq (awp_region ?_)
    refine al_pure rfl rfl rfl (pure_move rfl gU) ?_
    refine al_pure rfl rfl rfl (pure_move rfl gU) ?_
    refine al_lenS rfl rfl rfl rfl rfl gU (Tryd.underlying9) ?_ (fun hh => by simp at hh); intro hlen
    refine al_pure rfl rfl rfl (pure_cmp rfl rfl gU gU rfl) ?_
    refine al_nil ?_
    refine awp_cond rfl (fun hc2 => ?_) (fun hc2 => ?_)
    · have hlt : k < l.length := by simpa using hc2
      rw [drop_get0 hlt, List.all_cons] at hi
      refine awp_skip ?_
      refine awp_seq ?_
      refine awp_block ?_
      refine awp_seq (awp_region ?_)
      refine al_pure rfl rfl rfl (pure_move rfl gU) ?_
      refine al_pure rfl rfl rfl (pure_move rfl gU) ?_
      refine al_pure rfl rfl rfl (pure_indexSg rfl rfl gU gU Tryd.underlying9 rfl (fun hh => by first | omega | (simp at hh; exact List.length_pos_iff.2 hh.1))) ?_
      refine al_call rfl rfl rfl rfl rfl rfl gU gU (letter_spec _) rfl ?_
      refine al_pure rfl rfl rfl (pure_not rfl gU) ?_
      refine al_pure rfl rfl rfl (pure_move rfl gU) ?_
      refine al_pure rfl rfl rfl (pure_move rfl gU) ?_
      refine al_pure rfl rfl rfl (pure_move rfl gU) ?_
      refine al_sub (s := { t := [(0, _, _), (3, _, _), (29, _, _), (30, _, _), (31, _, _)], bx := [], ow := [] }) (sub_mk (⟨sx rfl, ⟨sx rfl, ⟨sx rfl, ⟨sx rfl, ⟨sx rfl, trivial⟩⟩⟩⟩⟩) trivial trivial) ?_
      refine al_pure rfl rfl rfl (pure_indexSg rfl rfl (fun hh => hh) (fun hh => hh) Tryd.underlying9 rfl (fun hh => by first | omega | (simp at hh; exact List.length_pos_iff.2 hh.1))) ?_
      refine al_call rfl rfl rfl rfl rfl rfl gU (fun hh => gA ((fun hh => hh) hh) (rfl)) (digit_spec _) rfl ?_
      refine al_pure rfl rfl rfl (pure_not rfl (fun hh => hh)) ?_
      refine al_pure rfl rfl rfl (pure_and rfl rfl gU (fun _ hi => gP rfl hi)) ?_
      refine al_pure rfl rfl rfl (pure_move rfl gU) ?_
      refine al_pure rfl rfl rfl (pure_move rfl gU) ?_
      refine al_pure rfl rfl rfl (pure_move rfl gU) ?_
      refine al_pure rfl rfl rfl (pure_indexSg rfl rfl (fun hh => hh) (fun hh => hh) Tryd.underlying9 rfl (fun hh => by first | omega | (simp at hh; exact List.length_pos_iff.2 hh.1))) ?_
      refine al_pure rfl rfl rfl (pure_cmp rfl rfl (fun hh => hh) gU rfl) ?_
      refine al_pure rfl rfl rfl (pure_and rfl rfl gU (fun _ hi => gP rfl hi)) ?_
      refine al_pure rfl rfl rfl (pure_move rfl gU) ?_
      refine al_pure rfl rfl rfl (pure_move rfl gU) ?_
      refine al_sub (s := { t := [(0, _, _), (3, _, _), (42, _, _), (43, _, _)], bx := [], ow := [] }) (sub_mk (⟨sx rfl, ⟨sx rfl, ⟨sx rfl, ⟨sx rfl, trivial⟩⟩⟩⟩) trivial trivial) ?_
      refine al_pure rfl rfl rfl (pure_move rfl gU) ?_
      refine al_pure rfl rfl rfl (pure_indexSg rfl rfl (fun hh => hh) (fun hh => hh) Tryd.underlying9 rfl (fun hh => by first | omega | (simp at hh; exact List.length_pos_iff.2 hh.1))) ?_
      refine al_pure rfl rfl rfl (pure_cmp rfl rfl (fun hh => hh) gU rfl) ?_
      refine al_pure rfl rfl rfl (pure_and rfl rfl gU (fun _ hi => gP rfl hi)) ?_
      refine al_nil ?_
      refine awp_cond rfl (fun hc1 => ?_) (fun hc1 => ?_)
      · try simp only [nn] at hc1
        refine awp_seq (awp_region ?_)
        refine al_pure rfl rfl rfl (pure_assign rfl gU) ?_
        refine al_nil ?_
        refine awp_ret ?_
        repeat (first | refine tR ?_ | refine bR ?_)
        refine ret_ok rfl ?_ trivial
        exact xb_eq (by simp [nameB]; grind [partB])
      · try simp only [nn] at hc1
        refine awp_skip ?_
        refine awp_region ?_
        refine al_pure rfl rfl rfl (pure_move rfl gU) ?_
        refine al_pure rfl rfl rfl (pure_arith rfl rfl gU gU rfl (IntWalk.i64_in _ (by omega))) ?_
        refine al_pure rfl rfl rfl (pure_assign rfl gU) ?_
        refine al_nil ?_
        refine ⟨k + 1, ?_, ?_, sub_mk (⟨⟨_, rfl, ?_⟩, ⟨sx rfl, trivial⟩⟩) trivial trivial⟩
        all_goals (grind [partB])
    · refine awp_exit ?_
      repeat (first | refine thenS_exit ?_ | refine blockS_hit ?_ | refine blockS_miss rfl ?_)
      refine awp_seq (awp_region ?_)
      refine al_pure rfl rfl rfl (pure_assign rfl gU) ?_
      refine al_nil ?_
      refine awp_ret ?_
      repeat (first | refine tR ?_ | refine bR ?_)
      refine ret_ok rfl ?_ trivial
      have : l.drop k = [] := by simp at hc2 ⊢; omega
      rw [this] at hi
      exact xb_eq (by simp [nameB]; grind)
end Go.Proofs.YthfoclblmdnckaaDoor
/- Names of formats. -/
set_option linter.unusedVariables false
set_option linter.unusedSimpArgs false
namespace Go.Proofs.YthfoclblmdnckaaDoor
open Go Go.Abs
theorem rname_spec (l : List UInt8) : Ctr sys 46 [xs l] [] (xb (fnameB l)) none [] := by
  refine spec_intro Tryd.func46 rfl rfl rfl rfl rfl rfl ?_
  refine awp_seq (awp_region ?_)
  refine al_pure rfl rfl rfl (pure_assign rfl gU) ?_
  refine al_nil ?_
  refine awp_seq ?_
  refine awp_seq (awp_region ?_)
  refine al_pure rfl rfl rfl (pure_assign rfl gU) ?_
  refine al_nil ?_
  refine awp_block ?_
  refine awp_for (ι := Nat) { t := [(0, _, _)], bx := [], ow := [] } (fun k => [(3, true, xi (k : Int))]) (fun k => []) (fun k => k ≤ l.length ∧ noHash (l.drop k) = noHash l) (fun k => l.length - k) (0) (by simp) (sub_mk (⟨sx rfl, ⟨sx rfl, trivial⟩⟩) trivial trivial) ?_
  intro k hok
  dsimp only [List.cons_append, List.nil_append]
  obtain ⟨hk, hi⟩ := hok
  refine awp_seq ?_
  refine awp_seq (awp_region ?_)
  refine al_pure rfl rfl rfl (pure_move rfl gU) ?_
  refine al_pure rfl rfl rfl (pure_move rfl gU) ?_
  refine al_lenS rfl rfl rfl rfl rfl gU (Tryd.underlying9) ?_ (fun hh => by simp at hh); intro hlen
  refine al_pure rfl rfl rfl (pure_cmp rfl rfl gU gU rfl) ?_
  refine al_nil ?_
  refine awp_cond rfl (fun hc => ?_) (fun hc => ?_)
  · have hlt : k < l.length := by simpa using hc
    rw [drop_get0 hlt, noHash, List.all_cons] at hi
    refine awp_skip ?_
    refine awp_seq ?_
    refine awp_block ?_
    refine awp_seq (awp_region ?_)
    refine al_pure rfl rfl rfl (pure_move rfl gU) ?_
    refine al_pure rfl rfl rfl (pure_move rfl gU) ?_
    refine al_pure rfl rfl rfl (pure_indexSg rfl rfl gU gU Tryd.underlying9 rfl (fun hh => by first | omega | (simp at hh; exact List.length_pos_iff.2 hh.1))) ?_
    refine al_pure rfl rfl rfl (pure_cmp rfl rfl gU gU rfl) ?_
    refine al_nil ?_
    refine awp_sub (s := { t := [(0, _, _), (3, _, _), (13, _, _)], bx := [], ow := [] }) (sub_mk (⟨sx rfl, ⟨sx rfl, ⟨sx rfl, trivial⟩⟩⟩) trivial trivial) ?_
    refine awp_cond rfl (fun hc1 => ?_) (fun hc1 => ?_)
    · try simp only [nn] at hc1
      refine awp_seq (awp_region ?_)
      refine al_pure rfl rfl rfl (pure_assign rfl gU) ?_
      refine al_nil ?_
      refine awp_ret ?_
      repeat (first | refine tR ?_ | refine bR ?_)
      refine ret_ok rfl ?_ trivial
      exact xb_eq (by simp [fnameB]; grind)
    · try simp only [nn] at hc1
      refine awp_skip ?_
      refine awp_region ?_
      refine al_pure rfl rfl rfl (pure_move rfl gU) ?_
      refine al_pure rfl rfl rfl (pure_arith rfl rfl gU gU rfl (IntWalk.i64_in _ (by omega))) ?_
      refine al_pure rfl rfl rfl (pure_assign rfl gU) ?_
      refine al_nil ?_
      refine ⟨k + 1, ?_, ?_, sub_mk (⟨⟨_, rfl, ?_⟩, ⟨sx rfl, trivial⟩⟩) trivial trivial⟩
      all_goals (grind [noHash])
  · refine awp_exit ?_
    repeat (first | refine thenS_exit ?_ | refine blockS_hit ?_ | refine blockS_miss rfl ?_)
    refine awp_seq (awp_region ?_)
    refine al_pure rfl rfl rfl (pure_move rfl gU) ?_
    refine al_call rfl rfl rfl rfl rfl rfl gU gU (isName_spec _) rfl ?_
    refine al_pure rfl rfl rfl (pure_assign rfl gU) ?_
    refine al_nil ?_
    refine awp_ret ?_
    repeat (first | refine tR ?_ | refine bR ?_)
    refine ret_ok rfl ?_ trivial
    have : l.drop k = [] := by simp at hc ⊢; omega
    rw [this] at hi
    exact xb_eq (by simp [fnameB]; grind [noHash])
def fpartB (k : Nat) (n : Int) : Bool := letterB n || (decide (k ≠ 0) && (n == 95 || digitB n))
def fpartsB : Nat → List UInt8 → Bool
  | _, [] => true
  | k, b :: l => fpartB k (b.toNat : Int) && fpartsB (k + 1) l
theorem fparts_tail : ∀ (l : List UInt8) (k : Nat), fpartsB (k + 1) l = l.all fun b => partB (b.toNat : Int) && (b.toNat : Int) != 35
  | [], k => rfl
  | b :: l, k => by
    rw [fpartsB, fparts_tail l (k + 1), List.all_cons]
    congr 1
    simp only [fpartB, partB, letterB, digitB]
    grind
theorem fname_eq (l : List UInt8) : fnameB l = (decide (0 < l.length) && decide (l.length ≤ 24) && fpartsB 0 l) := by
  cases l with
  | nil => rfl
  | cons b l =>
    rw [fpartsB, fparts_tail]
    simp only [fnameB, nameB, noHash, List.all_cons, fpartB, partB, letterB, digitB, List.getD_cons_zero, List.length_cons]
    rw [Bool.eq_iff_iff]
    simp only [List.all_eq_true, Bool.and_eq_true, decide_eq_true_eq, bne_iff_ne, Bool.or_eq_true]
    grind
theorem fisName_spec (l : List UInt8) : Ctr sys 38 [xs l] [] (xb (fnameB l)) none [] := by
  rw [fname_eq]
  refine spec_intro Tryd.func38 rfl rfl rfl rfl rfl rfl ?_
  refine awp_seq (awp_region ?_)
  refine al_pure rfl rfl rfl (pure_assign rfl gU) ?_
  refine al_nil ?_
  refine awp_seq ?_
  refine awp_seq (awp_region ?_)
  refine al_pure rfl rfl rfl (pure_move rfl gU) ?_
  refine al_lenS rfl rfl rfl rfl rfl gU (Tryd.underlying9) ?_ (fun hh => by simp at hh); intro hlen
  refine al_pure rfl rfl rfl (pure_move rfl gU) ?_
  refine al_nil ?_
  refine awp_block ?_
  refine awp_for (ι := Nat) { t := [(0, _, _), (7, _, _)], bx := [], ow := [] } (fun k => [(8, true, xi (k : Int))]) (fun k => []) (fun k => k ≤ l.length ∧ fpartsB k (l.drop k) = fpartsB 0 l) (fun k => l.length - k) (0) (by simp) (sub_mk (⟨sx rfl, ⟨sx rfl, ⟨sx rfl, trivial⟩⟩⟩) trivial trivial) ?_
  intro k hok
  dsimp only [List.cons_append, List.nil_append]
  obtain ⟨hk, hi⟩ := hok
  refine awp_seq (awp_region ?_)
  refine al_pure rfl rfl rfl (pure_cmp rfl rfl gU gU rfl) ?_
  refine al_nil ?_
  refine awp_seq ?_
  refine awp_cond rfl (fun hc => ?_) (fun hc => ?_)
  · have hlt : k < l.length := by simpa using hc
    rw [drop_get0 hlt, fpartsB] at hi
    refine awp_skip ?_
    refine awp_seq ?_
    refine awp_block ?_
    refine awp_seq (awp_region ?_)
    refine al_pure rfl rfl rfl (pure_move rfl gU) ?_
    refine al_pure rfl rfl rfl (pure_assign rfl gU) ?_
    refine al_nil ?_
    refine awp_seq (awp_region ?_)
    refine al_pure rfl rfl rfl (pure_move rfl gU) ?_
    refine al_pure rfl rfl rfl (pure_move rfl gU) ?_
    refine al_pure rfl rfl rfl (pure_indexSg rfl rfl gU gU Tryd.underlying9 rfl (fun hh => by first | omega | (simp at hh; exact List.length_pos_iff.2 hh.1))) ?_
    refine al_pure rfl rfl rfl (pure_assign rfl gU) ?_
    refine al_nil ?_
    refine awp_sub (s := { t := [(0, _, _), (3, _, _), (4, _, _), (7, _, _), (8, _, _)], bx := [], ow := [] }) (sub_mk (⟨sx rfl, ⟨sx rfl, ⟨sx rfl, ⟨sx rfl, ⟨sx rfl, trivial⟩⟩⟩⟩⟩) trivial trivial) ?_
    refine awp_seq (awp_region ?_)
    refine al_pure rfl rfl rfl (pure_move rfl gU) ?_
    refine al_pure rfl rfl rfl (pure_cmp rfl rfl gU gU rfl) ?_
    refine al_pure rfl rfl rfl (pure_move rfl gU) ?_
    refine al_pure rfl rfl rfl (pure_move rfl gU) ?_
    refine al_pure rfl rfl rfl (pure_cmp rfl rfl (fun hh => hh) gU rfl) ?_
    refine al_pure rfl rfl rfl (pure_and rfl rfl gU (fun _ hi => gP rfl hi)) ?_
    refine al_pure rfl rfl rfl (pure_move rfl gU) ?_
    refine al_pure rfl rfl rfl (pure_move rfl gU) ?_
    refine al_pure rfl rfl rfl (pure_cmp rfl rfl (fun hh => hh) gU rfl) ?_
    refine al_pure rfl rfl rfl (pure_move rfl (fun hh => hh)) ?_
    refine al_pure rfl rfl rfl (pure_move rfl gU) ?_
    refine al_pure rfl rfl rfl (pure_cmp rfl rfl (fun hh => hh) gU rfl) ?_
    refine al_sub (s := { t := [(0, _, _), (3, _, _), (4, _, _), (7, _, _), (8, _, _), (20, _, _), (23, _, _), (25, _, _)], bx := [], ow := [] }) (sub_mk (⟨sx rfl, ⟨sx rfl, ⟨sx rfl, ⟨sx rfl, ⟨sx rfl, ⟨sx rfl, ⟨sx rfl, ⟨sx rfl, trivial⟩⟩⟩⟩⟩⟩⟩⟩) trivial trivial) ?_
    refine al_pure rfl rfl rfl (pure_and rfl rfl (fun hh => hh) (fun hh hi => gP hh hi)) ?_
    refine al_pure rfl rfl rfl (pure_or rfl rfl gU (fun _ hi => gP rfl hi)) ?_
    refine al_pure rfl rfl rfl (pure_assign rfl gU) ?_
    refine al_nil ?_
    refine awp_seq (awp_region ?_)
    refine al_pure rfl rfl rfl (pure_move rfl gU) ?_
    refine al_pure rfl rfl rfl (pure_not rfl gU) ?_
    refine al_pure rfl rfl rfl (pure_move rfl gU) ?_
    refine al_pure rfl rfl rfl (pure_move rfl gU) ?_
    refine al_pure rfl rfl rfl (pure_cmp rfl rfl (fun hh => hh) gU rfl) ?_
    refine al_pure rfl rfl rfl (pure_move rfl (fun hh => hh)) ?_
    refine al_pure rfl rfl rfl (pure_move rfl gU) ?_
    refine al_pure rfl rfl rfl (pure_cmp rfl rfl (fun hh => hh) gU rfl) ?_
    refine al_pure rfl rfl rfl (pure_move rfl (fun hh => hh)) ?_
    refine al_sub (s := { t := [(0, _, _), (4, _, _), (7, _, _), (8, _, _), (30, _, _), (33, _, _), (36, _, _)], bx := [], ow := [] }) (sub_mk (⟨sx rfl, ⟨sx rfl, ⟨sx rfl, ⟨sx rfl, ⟨sx rfl, ⟨sx rfl, ⟨sx rfl, trivial⟩⟩⟩⟩⟩⟩⟩) trivial trivial) ?_
    refine al_pure rfl rfl rfl (pure_move rfl gU) ?_
    refine al_pure rfl rfl rfl (pure_cmp rfl rfl (fun hh => hh) gU rfl) ?_
    refine al_pure rfl rfl rfl (pure_move rfl (fun hh => hh)) ?_
    refine al_pure rfl rfl rfl (pure_move rfl gU) ?_
    refine al_pure rfl rfl rfl (pure_cmp rfl rfl (fun hh => hh) gU rfl) ?_
    refine al_pure rfl rfl rfl (pure_or rfl rfl (fun hh => hh) (fun hh hi => gP hh hi)) ?_
    refine al_pure rfl rfl rfl (pure_and rfl rfl (fun hh => hh) (fun hh hi => gP hh hi)) ?_
    refine al_pure rfl rfl rfl (pure_or rfl rfl (fun hh => hh) (fun hh hi => gP hh hi)) ?_
    refine al_pure rfl rfl rfl (pure_and rfl rfl gU (fun _ hi => gP rfl hi)) ?_
    refine al_nil ?_
    refine awp_sub (s := { t := [(0, _, _), (7, _, _), (8, _, _), (45, _, _)], bx := [], ow := [] }) (sub_mk (⟨sx rfl, ⟨sx rfl, ⟨sx rfl, ⟨sx rfl, trivial⟩⟩⟩⟩) trivial trivial) ?_
    refine awp_cond rfl (fun hc1 => ?_) (fun hc1 => ?_)
    · try simp only [nn] at hc1
      refine awp_seq (awp_region ?_)
      refine al_pure rfl rfl rfl (pure_assign rfl gU) ?_
      refine al_nil ?_
      refine awp_ret ?_
      repeat (first | refine tR ?_ | refine bR ?_)
      refine ret_ok rfl ?_ trivial
      exact xb_eq (by grind [fpartB, letterB, digitB])
    · try simp only [nn] at hc1
      refine awp_skip ?_
      refine awp_region ?_
      refine al_pure rfl rfl rfl (pure_arith rfl rfl gU gU rfl (IntWalk.i64_in _ (by omega))) ?_
      refine al_pure rfl rfl rfl (pure_move rfl gU) ?_
      refine al_nil ?_
      refine ⟨k + 1, ?_, ?_, sub_mk (⟨⟨_, rfl, ?_⟩, ⟨sx rfl, ⟨sx rfl, trivial⟩⟩⟩) trivial trivial⟩
      all_goals (grind [fpartB, letterB, digitB])
  · refine awp_exit ?_
    repeat (first | refine thenS_exit ?_ | refine blockS_hit ?_ | refine blockS_miss rfl ?_)
    refine awp_seq (awp_region ?_)
    refine al_pure rfl rfl rfl (pure_move rfl gU) ?_
    refine al_lenS rfl rfl rfl rfl rfl gU (Tryd.underlying9) ?_ (fun hh => by simp at hh); intro hlen
    refine al_pure rfl rfl rfl (pure_cmp rfl rfl gU gU rfl) ?_
    refine al_pure rfl rfl rfl (pure_move rfl gU) ?_
    refine al_pure rfl rfl rfl (pure_move rfl gU) ?_
    refine al_pure rfl rfl rfl (pure_lenS rfl (fun hh => hh) (Tryd.underlying9)) ?_
    refine al_pure rfl rfl rfl (pure_cmp rfl rfl (fun hh => hh) gU rfl) ?_
    refine al_pure rfl rfl rfl (pure_and rfl rfl gU (fun _ hi => gP rfl hi)) ?_
    refine al_pure rfl rfl rfl (pure_assign rfl gU) ?_
    refine al_nil ?_
    refine awp_ret ?_
    repeat (first | refine tR ?_ | refine bR ?_)
    refine ret_ok rfl ?_ trivial
    have : l.drop k = [] := by simp at hc ⊢; omega
    rw [this, fpartsB] at hi
    exact xb_eq (by grind)
end Go.Proofs.YthfoclblmdnckaaDoor
/- Tables of formats: as data, and what the functions on them compute (plain). -/
set_option linter.unusedVariables false
set_option linter.unusedSimpArgs false
namespace Go.Proofs.YthfoclblmdnckaaDoor
open Go Go.Abs
structure Fd where
  kind : Int
  bytes : List UInt8
  n : Int
  low : Int
  high : Int
  deriving Inhabited
theorem Fd.ext' {a b : Fd} (h1 : a.kind = b.kind) (h2 : a.bytes = b.bytes) (h3 : a.n = b.n) (h4 : a.low = b.low) (h5 : a.high = b.high) : a = b := by
  cases a; cases b; simp_all
def Fd.cells (f : Fd) : List C := [.i .i64 f.kind, .s f.bytes, .i .i64 f.n, .i .i64 f.low, .i .i64 f.high]
def Fd.rows (l : List Fd) : List (List C) := l.map Fd.cells
theorem Fd.rows_len (l : List Fd) : (Fd.rows l).length = l.length := by simp [Fd.rows]
theorem Fd.rows_at {l : List Fd} {k : Nat} (h : k < l.length) : (Fd.rows l)[k]? = some (l.getD k default).cells := by
  rw [Fd.rows, List.getElem?_map, List.getD_eq_getElem?_getD, List.getElem?_eq_getElem h]; rfl
theorem Fd.rows_app (a b : List Fd) : Fd.rows (a ++ b) = Fd.rows a ++ Fd.rows b := by simp [Fd.rows]
theorem Fd.rows_take (l : List Fd) (k : Nat) : (Fd.rows l).take k = Fd.rows (l.take k) := by simp [Fd.rows, List.map_take]
abbrev xf (f : Fd) : X := .v (.agg f.cells)
abbrev xfs (l : List Fd) : X := .v (.c (.sl 5 (Fd.rows l)))
structure Fm where
  name : List UInt8
  fields : List Fd
  deriving Inhabited
def Fm.cells (f : Fm) : List C := [.s f.name, .sl 5 (Fd.rows f.fields)]
def Fm.rows (l : List Fm) : List (List C) := l.map Fm.cells
theorem Fm.rows_len (l : List Fm) : (Fm.rows l).length = l.length := by simp [Fm.rows]
theorem Fm.rows_at {l : List Fm} {k : Nat} (h : k < l.length) : (Fm.rows l)[k]? = some (l.getD k default).cells := by
  rw [Fm.rows, List.getElem?_map, List.getD_eq_getElem?_getD, List.getElem?_eq_getElem h]; rfl
theorem Fm.rows_app (a b : List Fm) : Fm.rows (a ++ b) = Fm.rows a ++ Fm.rows b := by simp [Fm.rows]
theorem Fm.rows_take (l : List Fm) (k : Nat) : (Fm.rows l).take k = Fm.rows (l.take k) := by simp [Fm.rows, List.map_take]
abbrev xtab (t : List Fm) : X := .v (.c (.sl 2 (Fm.rows t)))
/-- The format with an index. -/
abbrev fmAt (t : List Fm) (i : Int) : Fm := t.getD i.toNat default
def shapeB (f : Fd) : Bool :=
  (f.kind == 1 && f.n == 0 && f.low == 0 && f.high == 0) || ((f.kind == 2 || f.kind == 3 || f.kind == 5) && f.bytes == [] && f.low == 0 && f.high == 0) || ((f.kind == 4 || f.kind == 6) && f.bytes == [] && f.n == 0)
def rangeB (f : Fd) (last : Bool) : Bool :=
  if f.kind = 1 then decide (1 ≤ f.bytes.length) && decide (f.bytes.length ≤ 8)
  else if f.kind = 2 then decide (1 ≤ f.n) && decide (f.n ≤ 15)
  else if f.kind = 3 then decide (0 ≤ f.n) && decide (f.n ≤ 15)
  else if f.kind = 4 then decide (0 ≤ f.low) && decide (f.low ≤ f.high) && decide (f.high ≤ 255)
  else if f.kind = 6 then last && decide (0 ≤ f.low) && decide (f.low ≤ f.high) && decide (f.high ≤ 1000)
  else true
def plainB (l : List Fd) : Bool := l.all fun f => f.kind != 5 && f.kind != 6
def fieldE (t : List Fm) (f : Fd) (last : Bool) : Int :=
  if shapeB f = false then 1 else if rangeB f last = false then 7 else if f.kind ≠ 5 then 0 else if f.n < 0 ∨ (t.length : Int) ≤ f.n then 4 else if plainB (fmAt t f.n).fields = false then 10 else 0
def findF (nm : List UInt8) : Int → List Fm → Int
  | _, [] => -1
  | k, f :: l => if f.name = nm then k else findF nm (k + 1) l
def fieldsE (t : List Fm) : List Fd → Int
  | [] => 0
  | f :: l => if fieldE t f l.isEmpty ≠ 0 then fieldE t f l.isEmpty else fieldsE t l
def fmE (t : List Fm) (f : Fm) : Int :=
  if fnameB f.name = false then 2 else if 0 ≤ findF f.name 0 t then 5 else if f.fields.length = 0 then 8 else if 6 < f.fields.length then 3 else fieldsE t f.fields
def tableE (t : List Fm) : List Fm → Nat → Int
  | [], _ => 0
  | f :: l, k => if fmE (t.take k) f ≠ 0 then fmE (t.take k) f else tableE t l (k + 1)
def validE (t : List Fm) : Int := if 8 < t.length then 3 else tableE t t 0
/-- What a valid table is. -/
structure Tab (t : List Fm) : Prop where
  len : t.length ≤ 8
  nf : ∀ i, i < t.length → 1 ≤ (t.getD i default).fields.length ∧ (t.getD i default).fields.length ≤ 6
  fd : ∀ i, i < t.length → ∀ k, k < (t.getD i default).fields.length → fieldE (t.take i) ((t.getD i default).fields.getD k default) (decide (k + 1 = (t.getD i default).fields.length)) = 0
theorem fieldsE_zero : ∀ {t : List Fm} {l : List Fd}, fieldsE t l = 0 → ∀ k, k < l.length → fieldE t (l.getD k default) (decide (k + 1 = l.length)) = 0
  | t, [], _, k, hk => by simp at hk
  | t, f :: l, h, k, hk => by
    rw [fieldsE] at h
    split at h
    · rename_i h1; exact absurd h h1
    · rename_i h1
      have h1 := Decidable.not_not.1 h1
      cases k with
      | zero =>
        rw [List.getD_cons_zero, ← h1]
        cases l <;> rfl
      | succ k =>
        rw [List.getD_cons_succ]
        have := fieldsE_zero h k (by simpa using hk)
        simpa using this
theorem tableE_zero : ∀ {t l : List Fm} {k : Nat}, tableE t l k = 0 → ∀ i, i < l.length → fmE (t.take (k + i)) (l.getD i default) = 0
  | t, [], k, _, i, hi => by simp at hi
  | t, f :: l, k, h, i, hi => by
    rw [tableE] at h
    split at h
    · rename_i h1; exact absurd h h1
    · rename_i h1
      have h1 := Decidable.not_not.1 h1
      cases i with
      | zero => simpa using h1
      | succ i =>
        have := tableE_zero h i (by simpa using hi)
        rw [List.getD_cons_succ, ← this]
        congr 2; omega
theorem fmE_zero {t : List Fm} {f : Fm} (h : fmE t f = 0) : 1 ≤ f.fields.length ∧ f.fields.length ≤ 6 ∧ fieldsE t f.fields = 0 ∧ fnameB f.name = true ∧ findF f.name 0 t < 0 := by
  unfold fmE at h
  split at h
  · simp at h
  split at h
  · simp at h
  split at h
  · simp at h
  split at h
  · simp at h
  refine ⟨by omega, by omega, h, by simp_all, by omega⟩
theorem validE_fm {t : List Fm} (h : validE t = 0) (i : Nat) (hi : i < t.length) : fmE (t.take i) (t.getD i default) = 0 := by
  unfold validE at h
  split at h
  · simp at h
  · have := tableE_zero h i hi
    simpa using this
theorem Tab.of {t : List Fm} (h : validE t = 0) : Tab t where
  len := by
    unfold validE at h
    split at h
    · simp at h
    · omega
  nf i hi := ⟨(fmE_zero (validE_fm h i hi)).1, (fmE_zero (validE_fm h i hi)).2.1⟩
  fd i hi k hk := fieldsE_zero (fmE_zero (validE_fm h i hi)).2.2.1 k hk
/-- The ranges of a field without an error. -/
theorem fieldE_rng {t : List Fm} {f : Fd} {last : Bool} (h : fieldE t f last = 0) : shapeB f = true ∧ rangeB f last = true ∧ (f.kind = 5 → 0 ≤ f.n ∧ f.n < t.length ∧ plainB (fmAt t f.n).fields = true) := by
  unfold fieldE at h
  grind
/-- What the walks need to know of a field. -/
structure FdOk (f : Fd) : Prop where
  k : 1 ≤ f.kind ∧ f.kind ≤ 6
  bytes : f.bytes.length ≤ 8
  n : 0 ≤ f.n ∧ f.n ≤ 15
  low : 0 ≤ f.low ∧ f.low ≤ 1000
  high : 0 ≤ f.high ∧ f.high ≤ 1000
  lh : f.low ≤ f.high
  h4 : f.kind = 4 → f.high ≤ 255
theorem fieldE_ok {t : List Fm} {f : Fd} {last : Bool} (ht : t.length ≤ 8) (h : fieldE t f last = 0) : FdOk f := by
  obtain ⟨h1, h2, h3⟩ := fieldE_rng h
  unfold shapeB at h1
  unfold rangeB at h2
  simp only [Bool.or_eq_true, Bool.and_eq_true, beq_iff_eq] at h1
  rcases h1 with ((h1 | h1) | h1)
  · obtain ⟨⟨⟨q1, q2⟩, q3⟩, q4⟩ := h1
    rw [if_pos q1] at h2
    simp only [Bool.and_eq_true, decide_eq_true_eq] at h2
    constructor <;> omega
  · obtain ⟨⟨⟨q1, q2⟩, q3⟩, q4⟩ := h1
    have hb : f.bytes.length = 0 := by rw [q2]; rfl
    rcases q1 with (q1 | q1) | q1 <;> (simp [q1] at h2 h3; constructor <;> omega)
  · obtain ⟨⟨q1, q2⟩, q3⟩ := h1
    have hb : f.bytes.length = 0 := by rw [q2]; rfl
    rcases q1 with q1 | q1 <;> (simp [q1] at h2; constructor <;> omega)
theorem Tab.fdOk {t : List Fm} (h : Tab t) {i k : Nat} (hi : i < t.length) (hk : k < (t.getD i default).fields.length) : FdOk ((t.getD i default).fields.getD k default) :=
  fieldE_ok (by have := h.len; simp; omega) (h.fd i hi k hk)
/-- A nested format. -/
theorem Tab.nest {t : List Fm} (h : Tab t) {i k : Nat} (hi : i < t.length) (hk : k < (t.getD i default).fields.length) (h5 : ((t.getD i default).fields.getD k default).kind = 5) :
    0 ≤ ((t.getD i default).fields.getD k default).n ∧ ((t.getD i default).fields.getD k default).n < i ∧ plainB (fmAt t ((t.getD i default).fields.getD k default).n).fields = true := by
  obtain ⟨_, _, h3⟩ := fieldE_rng (h.fd i hi k hk)
  obtain ⟨q1, q2, q3⟩ := h3 h5
  have hl : (t.take i).length = i := by simp; omega
  rw [hl] at q2
  refine ⟨q1, q2, ?_⟩
  have key : ∀ n : Int, n < i → 0 ≤ n → fmAt (t.take i) n = fmAt t n := by
    intro n h1 h2
    simp only [fmAt, List.getD_eq_getElem?_getD]
    rw [List.getElem?_take, if_pos (by omega)]
  rw [← key _ q2 q1]; exact q3
theorem plainB_kind {l : List Fd} (h : plainB l = true) {k : Nat} (hk : k < l.length) : (l.getD k default).kind ≠ 5 ∧ (l.getD k default).kind ≠ 6 := by
  unfold plainB at h
  rw [List.all_eq_true] at h
  have := h (l.getD k default) (by rw [List.getD_eq_getElem?_getD, List.getElem?_eq_getElem hk]; exact List.getElem_mem hk)
  simpa using this
/-- Bounds. -/
def bnd1 (f : Fd) : Int × Int :=
  if f.kind = 1 then (f.bytes.length, f.bytes.length) else if f.kind = 2 then (f.n, f.n) else if f.kind = 3 then (1, 1 + f.n) else if f.kind = 6 then (f.low, f.high) else (1, 1)
/-- The sum of the bounds; 'rec': those of a nested format. -/
def bndF (rec : Int → Int × Int) (f : Fd) : Int × Int := if f.kind = 5 then (1 + (rec f.n).1, 1 + (rec f.n).2) else bnd1 f
def bndL (rec : Int → Int × Int) : List Fd → Int × Int
  | [] => (0, 0)
  | f :: l => ((bndF rec f).1 + (bndL rec l).1, (bndF rec f).2 + (bndL rec l).2)
def bnd0 (t : List Fm) (i : Int) : Int × Int := bndL (fun _ => (0, 0)) (fmAt t i).fields
def bndT (t : List Fm) (i : Int) : Int × Int := bndL (bnd0 t) (fmAt t i).fields
def errE (t : List Fm) (i : Int) : Int := if validE t ≠ 0 then validE t else if i < 0 ∨ (t.length : Int) ≤ i then 7 else 0
def boundsE (t : List Fm) (i : Int) : Int × Int × Int := if errE t i ≠ 0 then (0, 0, errE t i) else ((bndT t i).1, (bndT t i).2, 0)
theorem bnd1_le {f : Fd} (h : FdOk f) : 0 ≤ (bnd1 f).1 ∧ (bnd1 f).1 ≤ (bnd1 f).2 ∧ (bnd1 f).2 ≤ 1000 := by
  obtain ⟨h1, h2, h3, h4, h5, h6, _⟩ := h
  unfold bnd1
  grind
theorem bndL_le {rec : Int → Int × Int} {B : Int} : ∀ {l : List Fd}, (∀ k, k < l.length → 0 ≤ (bndF rec (l.getD k default)).1 ∧ (bndF rec (l.getD k default)).1 ≤ (bndF rec (l.getD k default)).2 ∧ (bndF rec (l.getD k default)).2 ≤ B) →
    0 ≤ (bndL rec l).1 ∧ (bndL rec l).1 ≤ (bndL rec l).2 ∧ (bndL rec l).2 ≤ B * l.length
  | [], _ => by simp [bndL]
  | f :: l, h => by
    have h0 := h 0 (by simp)
    have ih := bndL_le (rec := rec) (B := B) (l := l) fun k hk => by have := h (k + 1) (by simpa using hk); simpa using this
    simp only [List.getD_cons_zero] at h0
    rw [bndL, List.length_cons]
    have : B * ((l.length + 1 : Nat) : Int) = B * l.length + B := by rw [Int.natCast_add, Int.mul_add]; simp
    dsimp only
    omega
theorem bndL_take {rec : Int → Int × Int} : ∀ {l : List Fd} {k : Nat}, k < l.length → (bndL rec (l.take (k + 1))).1 = (bndL rec (l.take k)).1 + (bndF rec (l.getD k default)).1 ∧ (bndL rec (l.take (k + 1))).2 = (bndL rec (l.take k)).2 + (bndF rec (l.getD k default)).2
  | [], k, h => by simp at h
  | f :: l, 0, h => by simp [bndL]
  | f :: l, k + 1, h => by
    obtain ⟨h1, h2⟩ := bndL_take (rec := rec) (l := l) (k := k) (by simpa using h)
    simp only [List.take_succ_cons, bndL, List.getD_cons_succ] at *
    omega
/-- Fields without nested formats; and with such that are plain. -/
structure Plain1 (l : List Fd) : Prop where
  len : 1 ≤ l.length ∧ l.length ≤ 6
  ok : ∀ k, k < l.length → FdOk (l.getD k default) ∧ (l.getD k default).kind ≠ 5 ∧ (l.getD k default).kind ≠ 6
structure Fds (t : List Fm) (l : List Fd) : Prop where
  len : 1 ≤ l.length ∧ l.length ≤ 6
  ok : ∀ k, k < l.length → FdOk (l.getD k default)
  nest : ∀ k, k < l.length → (l.getD k default).kind = 5 → (l.getD k default).n < t.length ∧ Plain1 (t.getD (l.getD k default).n.toNat default).fields
theorem Tab.fds {t : List Fm} (h : Tab t) {i : Nat} (hi : i < t.length) : Fds t (t.getD i default).fields where
  len := h.nf i hi
  ok k hk := h.fdOk hi hk
  nest k hk h5 := by
    obtain ⟨q1, q2, q3⟩ := h.nest hi hk h5
    have hlt : ((t.getD i default).fields.getD k default).n.toNat < t.length := by omega
    exact ⟨by omega, h.nf _ hlt, fun j hj => ⟨h.fdOk hlt hj, plainB_kind q3 hj⟩⟩
theorem Plain1.bnd {l : List Fd} {rec : Int → Int × Int} (h : Plain1 l) (k : Nat) : 0 ≤ (bndL rec (l.take k)).1 ∧ (bndL rec (l.take k)).1 ≤ (bndL rec (l.take k)).2 ∧ (bndL rec (l.take k)).2 ≤ 6000 := by
  have := bndL_le (rec := rec) (B := 1000) (l := l.take k) fun j hj => by
    simp only [List.length_take] at hj
    obtain ⟨h1, h2, h3⟩ := h.ok j (by omega)
    have he : (l.take k).getD j default = l.getD j default := by simp only [List.getD_eq_getElem?_getD]; rw [List.getElem?_take, if_pos (by omega)]
    rw [he]
    unfold bndF
    rw [if_neg h2]
    exact bnd1_le h1
  have hl := h.len
  simp only [List.length_take] at this
  omega
theorem Plain1.bndAll {l : List Fd} {rec : Int → Int × Int} (h : Plain1 l) : 0 ≤ (bndL rec l).1 ∧ (bndL rec l).1 ≤ (bndL rec l).2 ∧ (bndL rec l).2 ≤ 6000 := by
  have := h.bnd (rec := rec) l.length
  rwa [List.take_length] at this
theorem Fds.bndF {t : List Fm} {l : List Fd} (h : Fds t l) {k : Nat} (hk : k < l.length) : 0 ≤ (bndF (bnd0 t) (l.getD k default)).1 ∧ (bndF (bnd0 t) (l.getD k default)).1 ≤ (bndF (bnd0 t) (l.getD k default)).2 ∧ (bndF (bnd0 t) (l.getD k default)).2 ≤ 7000 := by
  unfold Go.Proofs.YthfoclblmdnckaaDoor.bndF
  split
  · rename_i h5
    have := (h.nest k hk h5).2.bndAll (rec := fun _ => (0, 0))
    unfold bnd0 fmAt
    dsimp only
    omega
  · have := bnd1_le (h.ok k hk)
    omega
theorem Fds.bnd {t : List Fm} {l : List Fd} (h : Fds t l) (k : Nat) : 0 ≤ (bndL (bnd0 t) (l.take k)).1 ∧ (bndL (bnd0 t) (l.take k)).1 ≤ (bndL (bnd0 t) (l.take k)).2 ∧ (bndL (bnd0 t) (l.take k)).2 ≤ 42000 := by
  have := bndL_le (rec := bnd0 t) (B := 7000) (l := l.take k) fun j hj => by
    simp only [List.length_take] at hj
    have he : (l.take k).getD j default = l.getD j default := by simp only [List.getD_eq_getElem?_getD]; rw [List.getElem?_take, if_pos (by omega)]
    rw [he]
    exact h.bndF (by omega)
  have hl := h.len
  simp only [List.length_take] at this
  omega
theorem bndF_eq {rec : Int → Int × Int} {f : Fd} (h : f.kind ≠ 5) : bndF rec f = bnd1 f := by rw [bndF, if_neg h]
theorem errE_zero {t : List Fm} {i : Int} (h : errE t i = 0) : Tab t ∧ 0 ≤ i ∧ i < t.length := by
  unfold errE at h
  split at h
  · rename_i h1; exact absurd h h1
  · rename_i h1
    split at h
    · simp at h
    · exact ⟨Tab.of (Decidable.not_not.1 h1), by omega, by omega⟩
end Go.Proofs.YthfoclblmdnckaaDoor
/- Contracts: the errors of tables of formats, on both sides. -/
set_option linter.unusedVariables false
set_option linter.unusedSimpArgs false
namespace Go.Proofs.YthfoclblmdnckaaDoor
open Go Go.Abs
theorem find_spec (t : List Fm) (nm : List UInt8) (rs : List (List C)) (hrs : rs = Fm.rows t) : Ctr sys 47 [.v (.c (.sl 2 rs)), xs nm] [] (xi (findF nm 0 t)) none [] := by
  subst hrs
  have hrl := Fm.rows_len t
  refine spec_intro Tryd.func47 rfl rfl rfl rfl rfl rfl ?_
  refine awp_seq (awp_region ?_)
  refine al_pure rfl rfl rfl (pure_assign rfl gU) ?_
  refine al_nil ?_
  refine awp_seq ?_
  refine awp_seq (awp_region ?_)
  refine al_pure rfl rfl rfl (pure_assign rfl gU) ?_
  refine al_nil ?_
  refine awp_block ?_
  refine awp_for (ι := Nat) { t := [(0, _, _), (1, _, _)], bx := [], ow := [] } (fun k => [(5, true, xi (k : Int))]) (fun k => []) (fun k => k ≤ t.length ∧ findF nm k (t.drop k) = findF nm 0 t) (fun k => t.length - k) (0) (by simp) (sub_mk (⟨sx rfl, ⟨sx rfl, ⟨sx rfl, trivial⟩⟩⟩) trivial trivial) ?_
  intro k hok
  dsimp only [List.cons_append, List.nil_append]
  obtain ⟨hk, hi⟩ := hok
  refine awp_seq ?_
  refine awp_seq (awp_region ?_)
  refine al_pure rfl rfl rfl (pure_move rfl gU) ?_
  refine al_pure rfl rfl rfl (pure_move rfl gU) ?_
  refine al_lenSl rfl rfl rfl rfl rfl gU rfl rfl ?_ (fun hh => by simp at hh); intro hlen
  refine al_pure rfl rfl rfl (pure_cmp rfl rfl gU gU rfl) ?_
  refine al_nil ?_
  refine awp_cond rfl (fun hc => ?_) (fun hc => ?_)
  · simp only [decide_eq_true_eq] at hc
    rw [drop_getD (by omega), findF] at hi
    refine awp_skip ?_
    refine awp_seq ?_
    refine awp_block ?_
    refine awp_seq (awp_region ?_)
    refine al_pure rfl rfl rfl (pure_move rfl gU) ?_
    refine al_pure rfl rfl rfl (pure_move rfl gU) ?_
    refine al_pure rfl rfl rfl (pure_indexAddr rfl rfl gU gU rfl rfl rfl (fun hh => Fm.rows_at (by omega))) ?_
    refine al_pure rfl rfl rfl (pure_fieldRo rfl gU rfl rfl) ?_
    refine al_pure rfl rfl rfl (pure_loadRo rfl gU rfl rfl rfl) ?_
    refine al_pure rfl rfl rfl (pure_move rfl gU) ?_
    refine al_pure rfl rfl rfl (pure_cmpS rfl rfl gU gU rfl) ?_
    refine al_nil ?_
    refine awp_sub (s := { t := [(0, _, _), (1, _, _), (5, _, _), (18, _, _)], bx := [], ow := [] }) (sub_mk (⟨sx rfl, ⟨sx rfl, ⟨sx rfl, ⟨sx rfl, trivial⟩⟩⟩⟩) trivial trivial) ?_
    refine awp_cond rfl (fun hc1 => ?_) (fun hc1 => ?_)
    · try simp only [nn] at hc1
      refine awp_seq (awp_region ?_)
      refine al_pure rfl rfl rfl (pure_move rfl gU) ?_
      refine al_pure rfl rfl rfl (pure_assign rfl gU) ?_
      refine al_nil ?_
      refine awp_ret ?_
      repeat (first | refine tR ?_ | refine bR ?_)
      refine ret_ok rfl ?_ trivial
      exact xi_eq (by grind)
    · try simp only [nn] at hc1
      refine awp_skip ?_
      refine awp_region ?_
      refine al_pure rfl rfl rfl (pure_move rfl gU) ?_
      refine al_pure rfl rfl rfl (pure_arith rfl rfl gU gU rfl (IntWalk.i64_in _ (by omega))) ?_
      refine al_pure rfl rfl rfl (pure_assign rfl gU) ?_
      refine al_nil ?_
      refine ⟨k + 1, ?_, ?_, sub_mk (⟨⟨_, rfl, ?_⟩, ⟨sx rfl, ⟨sx rfl, trivial⟩⟩⟩) trivial trivial⟩
      all_goals (first | rfl | omega | grind)
  · simp only [decide_eq_false_iff_not] at hc
    rw [List.drop_of_length_le (by omega), findF] at hi
    refine awp_exit ?_
    repeat (first | refine thenS_exit ?_ | refine blockS_hit ?_ | refine blockS_miss rfl ?_)
    refine awp_seq (awp_region ?_)
    refine al_pure rfl rfl rfl (pure_assign rfl gU) ?_
    refine al_nil ?_
    refine awp_ret ?_
    repeat (first | refine tR ?_ | refine bR ?_)
    refine ret_ok rfl ?_ trivial
    exact xi_eq hi
theorem index_spec (t : List Fm) (nm : List UInt8) (rs : List (List C)) (hrs : rs = Fm.rows t) : Ctr sys 39 [.v (.c (.sl 2 rs)), xs nm] [] (xi (findF nm 0 t)) none [] := by
  subst hrs
  have hrl := Fm.rows_len t
  refine spec_intro Tryd.func39 rfl rfl rfl rfl rfl rfl ?_
  refine awp_seq (awp_region ?_)
  refine al_pure rfl rfl rfl (pure_assign rfl gU) ?_
  refine al_nil ?_
  refine awp_seq ?_
  refine awp_seq (awp_region ?_)
  refine al_pure rfl rfl rfl (pure_move rfl gU) ?_
  refine al_lenSl rfl rfl rfl rfl rfl gU rfl rfl ?_ (fun hh => by simp at hh); intro hlen
  refine al_pure rfl rfl rfl (pure_move rfl gU) ?_
  refine al_nil ?_
  refine awp_block ?_
  refine awp_for (ι := Nat) { t := [(1, _, _), (7, _, _), (8, _, _)], bx := [], ow := [] } (fun k => [(9, true, xi (k : Int))]) (fun k => []) (fun k => k ≤ t.length ∧ findF nm k (t.drop k) = findF nm 0 t) (fun k => t.length - k) (0) (by simp) (sub_mk (⟨sx rfl, ⟨sx rfl, ⟨sx rfl, ⟨sx rfl, trivial⟩⟩⟩⟩) trivial trivial) ?_
  intro k hok
  dsimp only [List.cons_append, List.nil_append]
  obtain ⟨hk, hi⟩ := hok
  refine awp_seq (awp_region ?_)
  refine al_pure rfl rfl rfl (pure_cmp rfl rfl gU gU rfl) ?_
  refine al_nil ?_
  refine awp_seq ?_
  refine awp_cond rfl (fun hc => ?_) (fun hc => ?_)
  · simp only [decide_eq_true_eq] at hc
    rw [drop_getD (by omega), findF] at hi
    refine awp_skip ?_
    refine awp_seq ?_
    refine awp_block ?_
    refine awp_seq (awp_region ?_)
    refine al_pure rfl rfl rfl (pure_move rfl gU) ?_
    refine al_pure rfl rfl rfl (pure_indexAddr rfl rfl gU gU rfl rfl rfl (fun hh => Fm.rows_at (by omega))) ?_
    refine al_pure rfl rfl rfl (pure_loadRoRow rfl gU rfl rfl rfl rfl) ?_
    refine al_do rfl (does_alloc rfl rfl rfl) ?_
    refine al_pure rfl rfl rfl (pure_assign rfl gU) ?_
    refine al_do rfl (does_store rfl rfl rfl rfl rfl rfl rfl) ?_
    refine al_nil ?_
    refine awp_sub (s := { t := [(1, _, _), (5, _, _), (6, _, _), (7, _, _), (8, _, _), (9, _, _)], bx := [((.l 6), _)], ow := [] }) (sub_mk (⟨sx rfl, ⟨sx rfl, ⟨sx rfl, ⟨sx rfl, ⟨sx rfl, ⟨sx rfl, trivial⟩⟩⟩⟩⟩⟩) (⟨sx rfl, trivial⟩) trivial) ?_
    refine awp_seq (awp_region ?_)
    refine al_pure rfl rfl rfl (pure_fieldPtr rfl gU rfl rfl) ?_
    refine al_pure rfl rfl rfl (pure_loadBox rfl gU rfl rfl rfl rfl) ?_
    refine al_pure rfl rfl rfl (pure_move rfl gU) ?_
    refine al_pure rfl rfl rfl (pure_cmpS rfl rfl gU gU rfl) ?_
    refine al_nil ?_
    refine awp_cond rfl (fun hc1 => ?_) (fun hc1 => ?_)
    · try simp only [nn] at hc1
      refine awp_seq (awp_region ?_)
      refine al_pure rfl rfl rfl (pure_move rfl gU) ?_
      refine al_pure rfl rfl rfl (pure_assign rfl gU) ?_
      refine al_nil ?_
      refine awp_ret ?_
      repeat (first | refine tR ?_ | refine bR ?_)
      refine ret_ok rfl ?_ trivial
      exact xi_eq (by grind)
    · try simp only [nn] at hc1
      refine awp_skip ?_
      refine awp_region ?_
      refine al_pure rfl rfl rfl (pure_arith rfl rfl gU gU rfl (IntWalk.i64_in _ (by omega))) ?_
      refine al_pure rfl rfl rfl (pure_move rfl gU) ?_
      refine al_nil ?_
      refine ⟨k + 1, ?_, ?_, sub_mk (⟨⟨_, rfl, ?_⟩, ⟨sx rfl, ⟨sx rfl, ⟨sx rfl, trivial⟩⟩⟩⟩) trivial trivial⟩
      all_goals (first | rfl | omega | grind)
  · simp only [decide_eq_false_iff_not] at hc
    rw [List.drop_of_length_le (by omega), findF] at hi
    refine awp_exit ?_
    repeat (first | refine thenS_exit ?_ | refine blockS_hit ?_ | refine blockS_miss rfl ?_)
    refine awp_seq (awp_region ?_)
    refine al_pure rfl rfl rfl (pure_assign rfl gU) ?_
    refine al_nil ?_
    refine awp_ret ?_
    repeat (first | refine tR ?_ | refine bR ?_)
    refine ret_ok rfl ?_ trivial
    exact xi_eq hi
theorem plain_spec (f : Fm) : Ctr sys 49 [.v (.agg f.cells)] [] (xb (plainB f.fields)) none [] := by
  have hrl := Fd.rows_len f.fields
  refine spec_intro Tryd.func49 rfl rfl rfl rfl rfl rfl ?_
  refine awp_seq (awp_region ?_)
  refine al_do rfl (does_box rfl rfl rfl rfl) ?_
  refine al_pure rfl rfl rfl (pure_assign rfl gU) ?_
  refine al_nil ?_
  refine awp_seq ?_
  refine awp_seq (awp_region ?_)
  refine al_pure rfl rfl rfl (pure_assign rfl gU) ?_
  refine al_nil ?_
  refine awp_block ?_
  refine awp_for (ι := Nat) { t := [(1, _, _)], bx := [((.l 1), _)], ow := [] } (fun k => [(3, true, xi (k : Int))]) (fun k => []) (fun k => k ≤ f.fields.length ∧ plainB (f.fields.drop k) = plainB f.fields) (fun k => f.fields.length - k) (0) (by simp) (sub_mk (⟨sx rfl, ⟨sx rfl, trivial⟩⟩) (⟨sx rfl, trivial⟩) trivial) ?_
  intro k hok
  dsimp only [List.cons_append, List.nil_append]
  obtain ⟨hk, hi⟩ := hok
  refine awp_seq ?_
  refine awp_seq (awp_region ?_)
  refine al_pure rfl rfl rfl (pure_move rfl gU) ?_
  refine al_pure rfl rfl rfl (pure_fieldPtr rfl gU rfl rfl) ?_
  refine al_pure rfl rfl rfl (pure_loadBox rfl gU rfl rfl rfl rfl) ?_
  refine al_lenSl rfl rfl rfl rfl rfl gU rfl rfl ?_ (fun hh => by simp at hh); intro hlen
  refine al_pure rfl rfl rfl (pure_cmp rfl rfl gU gU rfl) ?_
  refine al_nil ?_
  refine awp_sub (s := { t := [(1, _, _), (3, _, _), (8, _, _)], bx := [((.l 1), _)], ow := [] }) (sub_mk (⟨sx rfl, ⟨sx rfl, ⟨sx rfl, trivial⟩⟩⟩) (⟨sx rfl, trivial⟩) trivial) ?_
  refine awp_cond rfl (fun hc => ?_) (fun hc => ?_)
  · simp only [decide_eq_true_eq] at hc
    rw [drop_getD (by omega), plainB, List.all_cons] at hi
    refine awp_skip ?_
    refine awp_seq ?_
    refine awp_block ?_
    refine awp_seq (awp_region ?_)
    refine al_pure rfl rfl rfl (pure_fieldPtr rfl gU rfl rfl) ?_
    refine al_pure rfl rfl rfl (pure_loadBox rfl gU rfl rfl rfl rfl) ?_
    refine al_pure rfl rfl rfl (pure_move rfl gU) ?_
    refine al_pure rfl rfl rfl (pure_indexAddr rfl rfl gU gU rfl rfl rfl (fun hh => Fd.rows_at (by omega))) ?_
    refine al_pure rfl rfl rfl (pure_fieldRo rfl gU rfl rfl) ?_
    refine al_pure rfl rfl rfl (pure_loadRo rfl gU rfl rfl rfl) ?_
    refine al_pure rfl rfl rfl (pure_cmp rfl rfl gU gU rfl) ?_
    refine al_pure rfl rfl rfl (pure_move rfl gU) ?_
    refine al_pure rfl rfl rfl (pure_fieldPtr rfl gU rfl rfl) ?_
    refine al_pure rfl rfl rfl (pure_loadBox rfl (fun hh => hh) rfl rfl rfl rfl) ?_
    refine al_pure rfl rfl rfl (pure_move rfl gU) ?_
    refine al_pure rfl rfl rfl (pure_indexAddr rfl rfl (fun hh => hh) (fun hh => hh) rfl rfl rfl (fun hh => Fd.rows_at (by omega))) ?_
    refine al_sub (s := { t := [(1, _, _), (3, _, _), (18, _, _), (22, _, _)], bx := [((.l 1), _)], ow := [] }) (sub_mk (⟨sx rfl, ⟨sx rfl, ⟨sx rfl, ⟨sx rfl, trivial⟩⟩⟩⟩) (⟨sx rfl, trivial⟩) trivial) ?_
    refine al_pure rfl rfl rfl (pure_fieldRo rfl (fun hh => hh) rfl rfl) ?_
    refine al_pure rfl rfl rfl (pure_loadRo rfl (fun hh => hh) rfl rfl rfl) ?_
    refine al_pure rfl rfl rfl (pure_cmp rfl rfl (fun hh => hh) gU rfl) ?_
    refine al_pure rfl rfl rfl (pure_or rfl rfl gU (fun _ hi => gP rfl hi)) ?_
    refine al_nil ?_
    refine awp_cond rfl (fun hc1 => ?_) (fun hc1 => ?_)
    · try simp only [nn] at hc1
      refine awp_seq (awp_region ?_)
      refine al_pure rfl rfl rfl (pure_assign rfl gU) ?_
      refine al_nil ?_
      refine awp_ret ?_
      repeat (first | refine tR ?_ | refine bR ?_)
      refine ret_ok rfl ?_ trivial
      exact xb_eq (by grind)
    · try simp only [nn] at hc1
      refine awp_skip ?_
      refine awp_region ?_
      refine al_pure rfl rfl rfl (pure_move rfl gU) ?_
      refine al_pure rfl rfl rfl (pure_arith rfl rfl gU gU rfl (IntWalk.i64_in _ (by omega))) ?_
      refine al_pure rfl rfl rfl (pure_assign rfl gU) ?_
      refine al_nil ?_
      refine ⟨k + 1, ?_, ?_, sub_mk (⟨⟨_, rfl, ?_⟩, ⟨sx rfl, trivial⟩⟩) (⟨sx rfl, trivial⟩) trivial⟩
      all_goals (first | rfl | omega | grind [plainB])
  · simp only [decide_eq_false_iff_not] at hc
    rw [List.drop_of_length_le (by omega)] at hi
    refine awp_exit ?_
    repeat (first | refine thenS_exit ?_ | refine blockS_hit ?_ | refine blockS_miss rfl ?_)
    refine awp_seq (awp_region ?_)
    refine al_pure rfl rfl rfl (pure_assign rfl gU) ?_
    refine al_nil ?_
    refine awp_ret ?_
    repeat (first | refine tR ?_ | refine bR ?_)
    refine ret_ok rfl ?_ trivial
    exact xb_eq (by rw [← hi]; rfl)
theorem shape_spec (f : Fd) : Ctr sys 61 [xf f] [] (xb (shapeB f)) none [] := by
  refine spec_intro Tryd.func61 rfl rfl rfl rfl rfl rfl ?_
  refine awp_seq (awp_region ?_)
  refine al_do rfl (does_box rfl rfl rfl rfl) ?_
  refine al_pure rfl rfl rfl (pure_assign rfl gU) ?_
  refine al_nil ?_
  refine awp_seq ?_
  refine awp_drawn' (by kernel_rfl) ?_
  refine dr_pure rfl rfl rfl rfl (pure_fieldPtr rfl gU rfl rfl) ?_
  refine dr_load rfl rfl rfl rfl rfl rfl rfl gU rfl rfl rfl rfl ?_
  refine dr_pure rfl rfl rfl rfl (pure_cmpS rfl rfl gU gU rfl) ?_
  refine dr_pure rfl rfl rfl rfl (pure_fieldPtr rfl gU rfl rfl) ?_
  refine dr_load rfl rfl rfl rfl rfl rfl rfl gU rfl rfl rfl rfl ?_
  refine dr_pure rfl rfl rfl rfl (pure_cmp rfl rfl gU gU rfl) ?_
  refine dr_pure rfl rfl rfl rfl (pure_fieldPtr rfl gU rfl rfl) ?_
  refine dr_load rfl rfl rfl rfl rfl rfl rfl gU rfl rfl rfl rfl ?_
  refine dr_pure rfl rfl rfl rfl (pure_cmp rfl rfl gU gU rfl) ?_
  refine dr_pure rfl rfl rfl rfl (pure_move rfl gU) ?_
  refine dr_pure rfl rfl rfl rfl (pure_fieldPtr rfl gU rfl rfl) ?_
  refine dr_load rfl rfl rfl rfl rfl rfl rfl (fun hh => hh) rfl rfl rfl rfl ?_
  refine dr_pure rfl rfl rfl rfl (pure_cmp rfl rfl (fun hh => hh) gU rfl) ?_
  refine dr_pure rfl rfl rfl rfl (pure_or rfl rfl gU (fun _ hi => gP rfl hi)) ?_
  refine dr_pure rfl rfl rfl rfl (pure_assign rfl gU) ?_
  refine dr_pure rfl rfl rfl rfl (pure_assign rfl gU) ?_
  refine dr_pure rfl rfl rfl rfl (pure_assign rfl gU) ?_
  refine dr_nil (by kernel_rfl) ?_
  refine awp_sub (s := { t := [(1, _, _), (3, _, _), (4, _, _), (5, _, _)], bx := [((.l 1), _)], ow := [] }) (sub_mk (⟨sx rfl, ⟨sx rfl, ⟨sx rfl, ⟨sx rfl, trivial⟩⟩⟩⟩) (⟨sx rfl, trivial⟩) trivial) ?_
  refine awp_seq ?_
  refine awp_seq (awp_region ?_)
  refine al_pure rfl rfl rfl (pure_fieldPtr rfl gU rfl rfl) ?_
  refine al_pure rfl rfl rfl (pure_loadBox rfl gU rfl rfl rfl rfl) ?_
  refine al_nil ?_
  refine awp_block ?_
  refine awp_seq (awp_region ?_)
  refine al_pure rfl rfl rfl (pure_cmp rfl rfl gU gU rfl) ?_
  refine al_pure rfl rfl rfl (pure_assign rfl gU) ?_
  refine al_nil ?_
  refine awp_cond rfl (fun hc1 => ?_) (fun hc1 => ?_)
  · try simp only [nn] at hc1
    refine awp_seq (awp_region ?_)
    refine al_pure rfl rfl rfl (pure_move rfl gU) ?_
    refine al_pure rfl rfl rfl (pure_not rfl gU) ?_
    refine al_pure rfl rfl rfl (pure_move rfl gU) ?_
    refine al_pure rfl rfl rfl (pure_move rfl gU) ?_
    refine al_pure rfl rfl rfl (pure_not rfl (fun hh => hh)) ?_
    refine al_pure rfl rfl rfl (pure_and rfl rfl gU (fun _ hi => gP rfl hi)) ?_
    refine al_pure rfl rfl rfl (pure_assign rfl gU) ?_
    refine al_nil ?_
    refine awp_ret ?_
    repeat (first | refine tR ?_ | refine bR ?_)
    refine ret_ok rfl ?_ trivial
    exact xb_eq (by simp only [shapeB]; grind)
  · try simp only [nn] at hc1
    refine awp_seq ?_
    refine awp_seq (awp_region ?_)
    refine al_pure rfl rfl rfl (pure_cmp rfl rfl gU gU rfl) ?_
    refine al_pure rfl rfl rfl (pure_assign rfl gU) ?_
    refine al_nil ?_
    refine awp_sub (s := { t := [(3, _, _), (4, _, _), (5, _, _), (21, _, _), (30, _, _)], bx := [], ow := [] }) (sub_mk (⟨sx rfl, ⟨sx rfl, ⟨sx rfl, ⟨sx rfl, ⟨sx rfl, trivial⟩⟩⟩⟩⟩) trivial trivial) ?_
    refine awp_cond rfl (fun hc2 => ?_) (fun hc2 => ?_)
    · try simp only [nn] at hc2
      refine awp_skip ?_
      refine awp_cond rfl (fun hc3 => ?_) (fun hc3 => ?_)
      · try simp only [nn] at hc3
        refine awp_seq (awp_region ?_)
        refine al_pure rfl rfl rfl (pure_move rfl gU) ?_
        refine al_pure rfl rfl rfl (pure_not rfl gU) ?_
        refine al_pure rfl rfl rfl (pure_move rfl gU) ?_
        refine al_pure rfl rfl rfl (pure_move rfl gU) ?_
        refine al_pure rfl rfl rfl (pure_not rfl (fun hh => hh)) ?_
        refine al_pure rfl rfl rfl (pure_and rfl rfl gU (fun _ hi => gP rfl hi)) ?_
        refine al_pure rfl rfl rfl (pure_assign rfl gU) ?_
        refine al_nil ?_
        refine awp_ret ?_
        repeat (first | refine tR ?_ | refine bR ?_)
        refine ret_ok rfl ?_ trivial
        exact xb_eq (by simp only [shapeB]; grind)
      · try simp only [nn] at hc3
        refine awp_seq ?_
        refine awp_seq (awp_region ?_)
        refine al_pure rfl rfl rfl (pure_cmp rfl rfl gU gU rfl) ?_
        refine al_pure rfl rfl rfl (pure_assign rfl gU) ?_
        refine al_nil ?_
        refine awp_cond rfl (fun hc4 => ?_) (fun hc4 => ?_)
        · try simp only [nn] at hc4
          refine awp_skip ?_
          refine awp_cond rfl (fun hc5 => ?_) (fun hc5 => ?_)
          · try simp only [nn] at hc5
            refine awp_seq (awp_region ?_)
            refine al_pure rfl rfl rfl (pure_move rfl gU) ?_
            refine al_pure rfl rfl rfl (pure_not rfl gU) ?_
            refine al_pure rfl rfl rfl (pure_move rfl gU) ?_
            refine al_pure rfl rfl rfl (pure_move rfl gU) ?_
            refine al_pure rfl rfl rfl (pure_not rfl (fun hh => hh)) ?_
            refine al_pure rfl rfl rfl (pure_and rfl rfl gU (fun _ hi => gP rfl hi)) ?_
            refine al_pure rfl rfl rfl (pure_assign rfl gU) ?_
            refine al_nil ?_
            refine awp_ret ?_
            repeat (first | refine tR ?_ | refine bR ?_)
            refine ret_ok rfl ?_ trivial
            exact xb_eq (by simp only [shapeB]; grind)
          · try simp only [nn] at hc5
            refine awp_skip ?_
            refine awp_seq (awp_region ?_)
            refine al_pure rfl rfl rfl (pure_assign rfl gU) ?_
            refine al_nil ?_
            refine awp_ret ?_
            repeat (first | refine tR ?_ | refine bR ?_)
            refine ret_ok rfl ?_ trivial
            exact xb_eq (by simp only [shapeB]; grind)
        · try simp only [nn] at hc4
          refine awp_region ?_
          refine al_pure rfl rfl rfl (pure_cmp rfl rfl gU gU rfl) ?_
          refine al_pure rfl rfl rfl (pure_assign rfl gU) ?_
          refine al_nil ?_
          refine awp_cond rfl (fun hc6 => ?_) (fun hc6 => ?_)
          · try simp only [nn] at hc6
            refine awp_seq (awp_region ?_)
            refine al_pure rfl rfl rfl (pure_move rfl gU) ?_
            refine al_pure rfl rfl rfl (pure_not rfl gU) ?_
            refine al_pure rfl rfl rfl (pure_move rfl gU) ?_
            refine al_pure rfl rfl rfl (pure_move rfl gU) ?_
            refine al_pure rfl rfl rfl (pure_not rfl (fun hh => hh)) ?_
            refine al_pure rfl rfl rfl (pure_and rfl rfl gU (fun _ hi => gP rfl hi)) ?_
            refine al_pure rfl rfl rfl (pure_assign rfl gU) ?_
            refine al_nil ?_
            refine awp_ret ?_
            repeat (first | refine tR ?_ | refine bR ?_)
            refine ret_ok rfl ?_ trivial
            exact xb_eq (by simp only [shapeB]; grind)
          · try simp only [nn] at hc6
            refine awp_skip ?_
            refine awp_seq (awp_region ?_)
            refine al_pure rfl rfl rfl (pure_assign rfl gU) ?_
            refine al_nil ?_
            refine awp_ret ?_
            repeat (first | refine tR ?_ | refine bR ?_)
            refine ret_ok rfl ?_ trivial
            exact xb_eq (by simp only [shapeB]; grind)
    · try simp only [nn] at hc2
      refine awp_seq (awp_region ?_)
      refine al_pure rfl rfl rfl (pure_cmp rfl rfl gU gU rfl) ?_
      refine al_pure rfl rfl rfl (pure_assign rfl gU) ?_
      refine al_nil ?_
      refine awp_cond rfl (fun hc7 => ?_) (fun hc7 => ?_)
      · try simp only [nn] at hc7
        refine awp_skip ?_
        refine awp_cond rfl (fun hc8 => ?_) (fun hc8 => ?_)
        · try simp only [nn] at hc8
          refine awp_seq (awp_region ?_)
          refine al_pure rfl rfl rfl (pure_move rfl gU) ?_
          refine al_pure rfl rfl rfl (pure_not rfl gU) ?_
          refine al_pure rfl rfl rfl (pure_move rfl gU) ?_
          refine al_pure rfl rfl rfl (pure_move rfl gU) ?_
          refine al_pure rfl rfl rfl (pure_not rfl (fun hh => hh)) ?_
          refine al_pure rfl rfl rfl (pure_and rfl rfl gU (fun _ hi => gP rfl hi)) ?_
          refine al_pure rfl rfl rfl (pure_assign rfl gU) ?_
          refine al_nil ?_
          refine awp_ret ?_
          repeat (first | refine tR ?_ | refine bR ?_)
          refine ret_ok rfl ?_ trivial
          exact xb_eq (by simp only [shapeB]; grind)
        · try simp only [nn] at hc8
          refine awp_seq ?_
          refine awp_seq (awp_region ?_)
          refine al_pure rfl rfl rfl (pure_cmp rfl rfl gU gU rfl) ?_
          refine al_pure rfl rfl rfl (pure_assign rfl gU) ?_
          refine al_nil ?_
          refine awp_cond rfl (fun hc9 => ?_) (fun hc9 => ?_)
          · try simp only [nn] at hc9
            refine awp_skip ?_
            refine awp_cond rfl (fun hc10 => ?_) (fun hc10 => ?_)
            · try simp only [nn] at hc10
              refine awp_seq (awp_region ?_)
              refine al_pure rfl rfl rfl (pure_move rfl gU) ?_
              refine al_pure rfl rfl rfl (pure_not rfl gU) ?_
              refine al_pure rfl rfl rfl (pure_move rfl gU) ?_
              refine al_pure rfl rfl rfl (pure_move rfl gU) ?_
              refine al_pure rfl rfl rfl (pure_not rfl (fun hh => hh)) ?_
              refine al_pure rfl rfl rfl (pure_and rfl rfl gU (fun _ hi => gP rfl hi)) ?_
              refine al_pure rfl rfl rfl (pure_assign rfl gU) ?_
              refine al_nil ?_
              refine awp_ret ?_
              repeat (first | refine tR ?_ | refine bR ?_)
              refine ret_ok rfl ?_ trivial
              exact xb_eq (by simp only [shapeB]; grind)
            · try simp only [nn] at hc10
              refine awp_skip ?_
              refine awp_seq (awp_region ?_)
              refine al_pure rfl rfl rfl (pure_assign rfl gU) ?_
              refine al_nil ?_
              refine awp_ret ?_
              repeat (first | refine tR ?_ | refine bR ?_)
              refine ret_ok rfl ?_ trivial
              exact xb_eq (by simp only [shapeB]; grind)
          · try simp only [nn] at hc9
            refine awp_region ?_
            refine al_pure rfl rfl rfl (pure_cmp rfl rfl gU gU rfl) ?_
            refine al_pure rfl rfl rfl (pure_assign rfl gU) ?_
            refine al_nil ?_
            refine awp_sub (s := { t := [(3, _, _), (4, _, _), (40, _, _)], bx := [], ow := [] }) (sub_mk (⟨sx rfl, ⟨sx rfl, ⟨sx rfl, trivial⟩⟩⟩) trivial trivial) ?_
            refine awp_cond rfl (fun hc11 => ?_) (fun hc11 => ?_)
            · try simp only [nn] at hc11
              refine awp_seq (awp_region ?_)
              refine al_pure rfl rfl rfl (pure_move rfl gU) ?_
              refine al_pure rfl rfl rfl (pure_not rfl gU) ?_
              refine al_pure rfl rfl rfl (pure_move rfl gU) ?_
              refine al_pure rfl rfl rfl (pure_move rfl gU) ?_
              refine al_pure rfl rfl rfl (pure_not rfl (fun hh => hh)) ?_
              refine al_pure rfl rfl rfl (pure_and rfl rfl gU (fun _ hi => gP rfl hi)) ?_
              refine al_pure rfl rfl rfl (pure_assign rfl gU) ?_
              refine al_nil ?_
              refine awp_ret ?_
              repeat (first | refine tR ?_ | refine bR ?_)
              refine ret_ok rfl ?_ trivial
              exact xb_eq (by simp only [shapeB]; grind)
            · try simp only [nn] at hc11
              refine awp_skip ?_
              refine awp_seq (awp_region ?_)
              refine al_pure rfl rfl rfl (pure_assign rfl gU) ?_
              refine al_nil ?_
              refine awp_ret ?_
              repeat (first | refine tR ?_ | refine bR ?_)
              refine ret_ok rfl ?_ trivial
              exact xb_eq (by simp only [shapeB]; grind)
      · try simp only [nn] at hc7
        refine awp_region ?_
        refine al_pure rfl rfl rfl (pure_cmp rfl rfl gU gU rfl) ?_
        refine al_pure rfl rfl rfl (pure_assign rfl gU) ?_
        refine al_nil ?_
        refine awp_cond rfl (fun hc12 => ?_) (fun hc12 => ?_)
        · try simp only [nn] at hc12
          refine awp_seq (awp_region ?_)
          refine al_pure rfl rfl rfl (pure_move rfl gU) ?_
          refine al_pure rfl rfl rfl (pure_not rfl gU) ?_
          refine al_pure rfl rfl rfl (pure_move rfl gU) ?_
          refine al_pure rfl rfl rfl (pure_move rfl gU) ?_
          refine al_pure rfl rfl rfl (pure_not rfl (fun hh => hh)) ?_
          refine al_pure rfl rfl rfl (pure_and rfl rfl gU (fun _ hi => gP rfl hi)) ?_
          refine al_pure rfl rfl rfl (pure_assign rfl gU) ?_
          refine al_nil ?_
          refine awp_ret ?_
          repeat (first | refine tR ?_ | refine bR ?_)
          refine ret_ok rfl ?_ trivial
          exact xb_eq (by simp only [shapeB]; grind)
        · try simp only [nn] at hc12
          refine awp_seq ?_
          refine awp_seq (awp_region ?_)
          refine al_pure rfl rfl rfl (pure_cmp rfl rfl gU gU rfl) ?_
          refine al_pure rfl rfl rfl (pure_assign rfl gU) ?_
          refine al_nil ?_
          refine awp_sub (s := { t := [(3, _, _), (4, _, _), (21, _, _), (40, _, _)], bx := [], ow := [] }) (sub_mk (⟨sx rfl, ⟨sx rfl, ⟨sx rfl, ⟨sx rfl, trivial⟩⟩⟩⟩) trivial trivial) ?_
          refine awp_cond rfl (fun hc13 => ?_) (fun hc13 => ?_)
          · try simp only [nn] at hc13
            refine awp_skip ?_
            refine awp_cond rfl (fun hc14 => ?_) (fun hc14 => ?_)
            · try simp only [nn] at hc14
              refine awp_seq (awp_region ?_)
              refine al_pure rfl rfl rfl (pure_move rfl gU) ?_
              refine al_pure rfl rfl rfl (pure_not rfl gU) ?_
              refine al_pure rfl rfl rfl (pure_move rfl gU) ?_
              refine al_pure rfl rfl rfl (pure_move rfl gU) ?_
              refine al_pure rfl rfl rfl (pure_not rfl (fun hh => hh)) ?_
              refine al_pure rfl rfl rfl (pure_and rfl rfl gU (fun _ hi => gP rfl hi)) ?_
              refine al_pure rfl rfl rfl (pure_assign rfl gU) ?_
              refine al_nil ?_
              refine awp_ret ?_
              repeat (first | refine tR ?_ | refine bR ?_)
              refine ret_ok rfl ?_ trivial
              exact xb_eq (by simp only [shapeB]; grind)
            · try simp only [nn] at hc14
              refine awp_skip ?_
              refine awp_seq (awp_region ?_)
              refine al_pure rfl rfl rfl (pure_assign rfl gU) ?_
              refine al_nil ?_
              refine awp_ret ?_
              repeat (first | refine tR ?_ | refine bR ?_)
              refine ret_ok rfl ?_ trivial
              exact xb_eq (by simp only [shapeB]; grind)
          · try simp only [nn] at hc13
            refine awp_region ?_
            refine al_pure rfl rfl rfl (pure_cmp rfl rfl gU gU rfl) ?_
            refine al_pure rfl rfl rfl (pure_assign rfl gU) ?_
            refine al_nil ?_
            refine awp_cond rfl (fun hc15 => ?_) (fun hc15 => ?_)
            · try simp only [nn] at hc15
              refine awp_seq (awp_region ?_)
              refine al_pure rfl rfl rfl (pure_move rfl gU) ?_
              refine al_pure rfl rfl rfl (pure_not rfl gU) ?_
              refine al_pure rfl rfl rfl (pure_move rfl gU) ?_
              refine al_pure rfl rfl rfl (pure_move rfl gU) ?_
              refine al_pure rfl rfl rfl (pure_not rfl (fun hh => hh)) ?_
              refine al_pure rfl rfl rfl (pure_and rfl rfl gU (fun _ hi => gP rfl hi)) ?_
              refine al_pure rfl rfl rfl (pure_assign rfl gU) ?_
              refine al_nil ?_
              refine awp_ret ?_
              repeat (first | refine tR ?_ | refine bR ?_)
              refine ret_ok rfl ?_ trivial
              exact xb_eq (by simp only [shapeB]; grind)
            · try simp only [nn] at hc15
              refine awp_skip ?_
              refine awp_seq (awp_region ?_)
              refine al_pure rfl rfl rfl (pure_assign rfl gU) ?_
              refine al_nil ?_
              refine awp_ret ?_
              repeat (first | refine tR ?_ | refine bR ?_)
              refine ret_ok rfl ?_ trivial
              exact xb_eq (by simp only [shapeB]; grind)
theorem ranges_spec (f : Fd) (last : Bool) : Ctr sys 62 [xf f, xb last] [] (xb (rangeB f last)) none [] := by
  refine spec_intro Tryd.func62 rfl rfl rfl rfl rfl rfl ?_
  refine awp_seq (awp_region ?_)
  refine al_do rfl (does_box rfl rfl rfl rfl) ?_
  refine al_pure rfl rfl rfl (pure_assign rfl gU) ?_
  refine al_nil ?_
  refine awp_seq ?_
  refine awp_seq (awp_region ?_)
  refine al_pure rfl rfl rfl (pure_fieldPtr rfl gU rfl rfl) ?_
  refine al_pure rfl rfl rfl (pure_loadBox rfl gU rfl rfl rfl rfl) ?_
  refine al_nil ?_
  refine awp_block ?_
  refine awp_seq (awp_region ?_)
  refine al_pure rfl rfl rfl (pure_cmp rfl rfl gU gU rfl) ?_
  refine al_pure rfl rfl rfl (pure_assign rfl gU) ?_
  refine al_nil ?_
  refine awp_sub (s := { t := [(1, _, _), (2, _, _), (6, _, _), (7, _, _)], bx := [((.l 2), _)], ow := [] }) (sub_mk (⟨sx rfl, ⟨sx rfl, ⟨sx rfl, ⟨sx rfl, trivial⟩⟩⟩⟩) (⟨sx rfl, trivial⟩) trivial) ?_
  refine awp_cond rfl (fun hc1 => ?_) (fun hc1 => ?_)
  · try simp only [nn] at hc1
    refine awp_seq (awp_region ?_)
    refine al_pure rfl rfl rfl (pure_fieldPtr rfl gU rfl rfl) ?_
    refine al_pure rfl rfl rfl (pure_loadBox rfl gU rfl rfl rfl rfl) ?_
    refine al_lenS rfl rfl rfl rfl rfl gU (Tryd.underlying9) ?_ (fun hh => by simp at hh); intro hlen
    refine al_pure rfl rfl rfl (pure_cmp rfl rfl gU gU rfl) ?_
    refine al_pure rfl rfl rfl (pure_move rfl gU) ?_
    refine al_pure rfl rfl rfl (pure_fieldPtr rfl gU rfl rfl) ?_
    refine al_pure rfl rfl rfl (pure_loadBox rfl (fun hh => hh) rfl rfl rfl rfl) ?_
    refine al_pure rfl rfl rfl (pure_lenS rfl (fun hh => hh) (Tryd.underlying9)) ?_
    refine al_pure rfl rfl rfl (pure_cmp rfl rfl (fun hh => hh) gU rfl) ?_
    refine al_pure rfl rfl rfl (pure_and rfl rfl gU (fun _ hi => gP rfl hi)) ?_
    refine al_pure rfl rfl rfl (pure_assign rfl gU) ?_
    refine al_nil ?_
    refine awp_ret ?_
    repeat (first | refine tR ?_ | refine bR ?_)
    refine ret_ok rfl ?_ trivial
    exact xb_eq (by simp only [rangeB]; grind)
  · try simp only [nn] at hc1
    refine awp_seq (awp_region ?_)
    refine al_pure rfl rfl rfl (pure_cmp rfl rfl gU gU rfl) ?_
    refine al_pure rfl rfl rfl (pure_assign rfl gU) ?_
    refine al_nil ?_
    refine awp_cond rfl (fun hc2 => ?_) (fun hc2 => ?_)
    · try simp only [nn] at hc2
      refine awp_seq (awp_region ?_)
      refine al_pure rfl rfl rfl (pure_fieldPtr rfl gU rfl rfl) ?_
      refine al_pure rfl rfl rfl (pure_loadBox rfl gU rfl rfl rfl rfl) ?_
      refine al_pure rfl rfl rfl (pure_cmp rfl rfl gU gU rfl) ?_
      refine al_pure rfl rfl rfl (pure_move rfl gU) ?_
      refine al_pure rfl rfl rfl (pure_fieldPtr rfl gU rfl rfl) ?_
      refine al_pure rfl rfl rfl (pure_loadBox rfl (fun hh => hh) rfl rfl rfl rfl) ?_
      refine al_pure rfl rfl rfl (pure_cmp rfl rfl (fun hh => hh) gU rfl) ?_
      refine al_pure rfl rfl rfl (pure_and rfl rfl gU (fun _ hi => gP rfl hi)) ?_
      refine al_pure rfl rfl rfl (pure_assign rfl gU) ?_
      refine al_nil ?_
      refine awp_ret ?_
      repeat (first | refine tR ?_ | refine bR ?_)
      refine ret_ok rfl ?_ trivial
      exact xb_eq (by simp only [rangeB]; grind)
    · try simp only [nn] at hc2
      refine awp_seq (awp_region ?_)
      refine al_pure rfl rfl rfl (pure_cmp rfl rfl gU gU rfl) ?_
      refine al_pure rfl rfl rfl (pure_assign rfl gU) ?_
      refine al_nil ?_
      refine awp_cond rfl (fun hc3 => ?_) (fun hc3 => ?_)
      · try simp only [nn] at hc3
        refine awp_seq (awp_region ?_)
        refine al_pure rfl rfl rfl (pure_fieldPtr rfl gU rfl rfl) ?_
        refine al_pure rfl rfl rfl (pure_loadBox rfl gU rfl rfl rfl rfl) ?_
        refine al_pure rfl rfl rfl (pure_cmp rfl rfl gU gU rfl) ?_
        refine al_pure rfl rfl rfl (pure_move rfl gU) ?_
        refine al_pure rfl rfl rfl (pure_fieldPtr rfl gU rfl rfl) ?_
        refine al_pure rfl rfl rfl (pure_loadBox rfl (fun hh => hh) rfl rfl rfl rfl) ?_
        refine al_pure rfl rfl rfl (pure_cmp rfl rfl (fun hh => hh) gU rfl) ?_
        refine al_pure rfl rfl rfl (pure_and rfl rfl gU (fun _ hi => gP rfl hi)) ?_
        refine al_sub (s := { t := [(38, _, _)], bx := [], ow := [] }) (sub_mk (⟨sx rfl, trivial⟩) trivial trivial) ?_
        refine al_pure rfl rfl rfl (pure_assign rfl gU) ?_
        refine al_nil ?_
        refine awp_ret ?_
        repeat (first | refine tR ?_ | refine bR ?_)
        refine ret_ok rfl ?_ trivial
        exact xb_eq (by simp only [rangeB]; grind)
      · try simp only [nn] at hc3
        refine awp_seq (awp_region ?_)
        refine al_pure rfl rfl rfl (pure_cmp rfl rfl gU gU rfl) ?_
        refine al_pure rfl rfl rfl (pure_assign rfl gU) ?_
        refine al_nil ?_
        refine awp_sub (s := { t := [(1, _, _), (2, _, _), (6, _, _), (39, _, _)], bx := [((.l 2), _)], ow := [] }) (sub_mk (⟨sx rfl, ⟨sx rfl, ⟨sx rfl, ⟨sx rfl, trivial⟩⟩⟩⟩) (⟨sx rfl, trivial⟩) trivial) ?_
        refine awp_cond rfl (fun hc4 => ?_) (fun hc4 => ?_)
        · try simp only [nn] at hc4
          refine awp_seq (awp_region ?_)
          refine al_pure rfl rfl rfl (pure_fieldPtr rfl gU rfl rfl) ?_
          refine al_pure rfl rfl rfl (pure_loadBox rfl gU rfl rfl rfl rfl) ?_
          refine al_pure rfl rfl rfl (pure_cmp rfl rfl gU gU rfl) ?_
          refine al_pure rfl rfl rfl (pure_move rfl gU) ?_
          refine al_pure rfl rfl rfl (pure_fieldPtr rfl gU rfl rfl) ?_
          refine al_pure rfl rfl rfl (pure_loadBox rfl (fun hh => hh) rfl rfl rfl rfl) ?_
          refine al_pure rfl rfl rfl (pure_fieldPtr rfl gU rfl rfl) ?_
          refine al_pure rfl rfl rfl (pure_loadBox rfl (fun hh => hh) rfl rfl rfl rfl) ?_
          refine al_pure rfl rfl rfl (pure_cmp rfl rfl (fun hh => hh) (fun hh => hh) rfl) ?_
          refine al_pure rfl rfl rfl (pure_and rfl rfl gU (fun _ hi => gP rfl hi)) ?_
          refine al_pure rfl rfl rfl (pure_move rfl gU) ?_
          refine al_pure rfl rfl rfl (pure_fieldPtr rfl gU rfl rfl) ?_
          refine al_sub (s := { t := [(51, _, _), (52, _, _)], bx := [((.l 2), _)], ow := [] }) (sub_mk (⟨sx rfl, ⟨sx rfl, trivial⟩⟩) (⟨sx rfl, trivial⟩) trivial) ?_
          refine al_pure rfl rfl rfl (pure_loadBox rfl (fun hh => hh) rfl rfl rfl rfl) ?_
          refine al_pure rfl rfl rfl (pure_cmp rfl rfl (fun hh => hh) gU rfl) ?_
          refine al_pure rfl rfl rfl (pure_and rfl rfl gU (fun _ hi => gP rfl hi)) ?_
          refine al_pure rfl rfl rfl (pure_assign rfl gU) ?_
          refine al_nil ?_
          refine awp_ret ?_
          repeat (first | refine tR ?_ | refine bR ?_)
          refine ret_ok rfl ?_ trivial
          exact xb_eq (by simp only [rangeB]; grind)
        · try simp only [nn] at hc4
          refine awp_seq (awp_region ?_)
          refine al_pure rfl rfl rfl (pure_cmp rfl rfl gU gU rfl) ?_
          refine al_pure rfl rfl rfl (pure_assign rfl gU) ?_
          refine al_nil ?_
          refine awp_cond rfl (fun hc5 => ?_) (fun hc5 => ?_)
          · try simp only [nn] at hc5
            refine awp_seq (awp_region ?_)
            refine al_pure rfl rfl rfl (pure_move rfl gU) ?_
            refine al_pure rfl rfl rfl (pure_move rfl gU) ?_
            refine al_pure rfl rfl rfl (pure_fieldPtr rfl gU rfl rfl) ?_
            refine al_pure rfl rfl rfl (pure_loadBox rfl (fun hh => hh) rfl rfl rfl rfl) ?_
            refine al_pure rfl rfl rfl (pure_cmp rfl rfl (fun hh => hh) gU rfl) ?_
            refine al_pure rfl rfl rfl (pure_and rfl rfl gU (fun _ hi => gP rfl hi)) ?_
            refine al_pure rfl rfl rfl (pure_move rfl gU) ?_
            refine al_pure rfl rfl rfl (pure_fieldPtr rfl gU rfl rfl) ?_
            refine al_pure rfl rfl rfl (pure_loadBox rfl (fun hh => hh) rfl rfl rfl rfl) ?_
            refine al_pure rfl rfl rfl (pure_fieldPtr rfl gU rfl rfl) ?_
            refine al_sub (s := { t := [(2, _, _), (64, _, _), (66, _, _), (67, _, _)], bx := [((.l 2), _)], ow := [] }) (sub_mk (⟨sx rfl, ⟨sx rfl, ⟨sx rfl, ⟨sx rfl, trivial⟩⟩⟩⟩) (⟨sx rfl, trivial⟩) trivial) ?_
            refine al_pure rfl rfl rfl (pure_loadBox rfl (fun hh => hh) rfl rfl rfl rfl) ?_
            refine al_pure rfl rfl rfl (pure_cmp rfl rfl (fun hh => hh) (fun hh => hh) rfl) ?_
            refine al_pure rfl rfl rfl (pure_and rfl rfl gU (fun _ hi => gP rfl hi)) ?_
            refine al_pure rfl rfl rfl (pure_move rfl gU) ?_
            refine al_pure rfl rfl rfl (pure_fieldPtr rfl gU rfl rfl) ?_
            refine al_pure rfl rfl rfl (pure_loadBox rfl (fun hh => hh) rfl rfl rfl rfl) ?_
            refine al_pure rfl rfl rfl (pure_cmp rfl rfl (fun hh => hh) gU rfl) ?_
            refine al_pure rfl rfl rfl (pure_and rfl rfl gU (fun _ hi => gP rfl hi)) ?_
            refine al_pure rfl rfl rfl (pure_assign rfl gU) ?_
            refine al_nil ?_
            refine awp_ret ?_
            repeat (first | refine tR ?_ | refine bR ?_)
            refine ret_ok rfl ?_ trivial
            exact xb_eq (by simp only [rangeB]; grind)
          · try simp only [nn] at hc5
            refine awp_skip ?_
            refine awp_seq (awp_region ?_)
            refine al_pure rfl rfl rfl (pure_assign rfl gU) ?_
            refine al_nil ?_
            refine awp_ret ?_
            repeat (first | refine tR ?_ | refine bR ?_)
            refine ret_ok rfl ?_ trivial
            exact xb_eq (by simp only [rangeB]; grind)
end Go.Proofs.YthfoclblmdnckaaDoor
/- Contracts: the errors of tables of formats, on both sides (fields, tables). -/
set_option linter.unusedVariables false
set_option linter.unusedSimpArgs false
namespace Go.Proofs.YthfoclblmdnckaaDoor
open Go Go.Abs
theorem field_spec (t : List Fm) (f : Fd) (last : Bool) (rs : List (List C)) (hrs : rs = Fm.rows t) : Ctr sys 48 [.v (.c (.sl 2 rs)), xf f, xb last] [] (xi (fieldE t f last)) none [] := by
  subst hrs
  have hrl := Fm.rows_len t
  refine spec_intro Tryd.func48 rfl rfl rfl rfl rfl rfl ?_
  refine awp_seq (awp_region ?_)
  refine al_do rfl (does_box rfl rfl rfl rfl) ?_
  refine al_pure rfl rfl rfl (pure_assign rfl gU) ?_
  refine al_nil ?_
  refine awp_seq ?_
  refine awp_seq (awp_region ?_)
  refine al_pure rfl rfl rfl (pure_loadBoxRow rfl gU rfl rfl rfl rfl rfl) ?_
  refine al_call rfl rfl rfl rfl rfl rfl gU gU (shape_spec _) rfl ?_
  refine al_pure rfl rfl rfl (pure_not rfl gU) ?_
  refine al_nil ?_
  refine awp_sub (s := { t := [(0, _, _), (2, _, _), (4, _, _), (9, _, _)], bx := [((.l 4), _)], ow := [] }) (sub_mk (⟨sx rfl, ⟨sx rfl, ⟨sx rfl, ⟨sx rfl, trivial⟩⟩⟩⟩) (⟨sx rfl, trivial⟩) trivial) ?_
  refine awp_cond rfl (fun hc1 => ?_) (fun hc1 => ?_)
  · try simp only [nn, Fm.rows_len] at hc1
    refine awp_seq (awp_region ?_)
    refine al_pure rfl rfl rfl (pure_assign rfl gU) ?_
    refine al_nil ?_
    refine awp_ret ?_
    repeat (first | refine tR ?_ | refine bR ?_)
    refine ret_ok rfl ?_ trivial
    exact xi_eq (by simp only [fieldE]; grind)
  · try simp only [nn, Fm.rows_len] at hc1
    refine awp_skip ?_
    refine awp_seq ?_
    refine awp_seq (awp_region ?_)
    refine al_pure rfl rfl rfl (pure_loadBoxRow rfl gU rfl rfl rfl rfl rfl) ?_
    refine al_pure rfl rfl rfl (pure_move rfl gU) ?_
    refine al_call rfl rfl rfl rfl rfl rfl gU gU (ranges_spec _ _) rfl ?_
    refine al_pure rfl rfl rfl (pure_not rfl gU) ?_
    refine al_nil ?_
    refine awp_cond rfl (fun hc2 => ?_) (fun hc2 => ?_)
    · try simp only [nn, Fm.rows_len] at hc2
      refine awp_seq (awp_region ?_)
      refine al_pure rfl rfl rfl (pure_assign rfl gU) ?_
      refine al_nil ?_
      refine awp_ret ?_
      repeat (first | refine tR ?_ | refine bR ?_)
      refine ret_ok rfl ?_ trivial
      exact xi_eq (by simp only [fieldE]; grind)
    · try simp only [nn, Fm.rows_len] at hc2
      refine awp_skip ?_
      refine awp_seq ?_
      refine awp_seq (awp_region ?_)
      refine al_pure rfl rfl rfl (pure_fieldPtr rfl gU rfl rfl) ?_
      refine al_pure rfl rfl rfl (pure_loadBox rfl gU rfl rfl rfl rfl) ?_
      refine al_pure rfl rfl rfl (pure_cmp rfl rfl gU gU rfl) ?_
      refine al_nil ?_
      refine awp_sub (s := { t := [(0, _, _), (4, _, _), (16, _, _)], bx := [((.l 4), _)], ow := [] }) (sub_mk (⟨sx rfl, ⟨sx rfl, ⟨sx rfl, trivial⟩⟩⟩) (⟨sx rfl, trivial⟩) trivial) ?_
      refine awp_cond rfl (fun hc3 => ?_) (fun hc3 => ?_)
      · try simp only [nn, Fm.rows_len] at hc3
        refine awp_seq (awp_region ?_)
        refine al_pure rfl rfl rfl (pure_assign rfl gU) ?_
        refine al_nil ?_
        refine awp_ret ?_
        repeat (first | refine tR ?_ | refine bR ?_)
        refine ret_ok rfl ?_ trivial
        exact xi_eq (by simp only [fieldE]; grind)
      · try simp only [nn, Fm.rows_len] at hc3
        refine awp_skip ?_
        refine awp_seq ?_
        refine awp_seq (awp_region ?_)
        refine al_pure rfl rfl rfl (pure_fieldPtr rfl gU rfl rfl) ?_
        refine al_pure rfl rfl rfl (pure_loadBox rfl gU rfl rfl rfl rfl) ?_
        refine al_pure rfl rfl rfl (pure_cmp rfl rfl gU gU rfl) ?_
        refine al_pure rfl rfl rfl (pure_move rfl gU) ?_
        refine al_pure rfl rfl rfl (pure_fieldPtr rfl gU rfl rfl) ?_
        refine al_pure rfl rfl rfl (pure_loadBox rfl (fun hh => hh) rfl rfl rfl rfl) ?_
        refine al_pure rfl rfl rfl (pure_move rfl gU) ?_
        refine al_pure rfl rfl rfl (pure_lenSl rfl (fun hh => hh) rfl rfl) ?_
        refine al_pure rfl rfl rfl (pure_cmp rfl rfl (fun hh => hh) (fun hh => hh) rfl) ?_
        refine al_pure rfl rfl rfl (pure_or rfl rfl gU (fun _ hi => gP rfl hi)) ?_
        refine al_nil ?_
        refine awp_sub (s := { t := [(0, _, _), (4, _, _), (26, _, _)], bx := [((.l 4), _)], ow := [] }) (sub_mk (⟨sx rfl, ⟨sx rfl, ⟨sx rfl, trivial⟩⟩⟩) (⟨sx rfl, trivial⟩) trivial) ?_
        refine awp_cond rfl (fun hc4 => ?_) (fun hc4 => ?_)
        · try simp only [nn, Fm.rows_len] at hc4
          refine awp_seq (awp_region ?_)
          refine al_pure rfl rfl rfl (pure_assign rfl gU) ?_
          refine al_nil ?_
          refine awp_ret ?_
          repeat (first | refine tR ?_ | refine bR ?_)
          refine ret_ok rfl ?_ trivial
          exact xi_eq (by simp only [fieldE]; grind)
        · try simp only [nn, Fm.rows_len] at hc4
          refine awp_skip ?_
          refine awp_seq ?_
          refine awp_seq (awp_region ?_)
          refine al_pure rfl rfl rfl (pure_move rfl gU) ?_
          refine al_pure rfl rfl rfl (pure_fieldPtr rfl gU rfl rfl) ?_
          refine al_pure rfl rfl rfl (pure_loadBox rfl gU rfl rfl rfl rfl) ?_
          refine al_pure rfl rfl rfl (pure_indexAddr (j := f.n.toNat) rfl rfl gU gU rfl rfl (by omega) (fun hh => Fm.rows_at (by omega))) ?_
          refine al_pure rfl rfl rfl (pure_loadRoRow rfl gU rfl rfl rfl rfl) ?_
          refine al_call rfl rfl rfl rfl rfl rfl gU gU (plain_spec _) rfl ?_
          refine al_pure rfl rfl rfl (pure_not rfl gU) ?_
          refine al_nil ?_
          refine awp_sub (s := { t := [(33, _, _)], bx := [], ow := [] }) (sub_mk (⟨sx rfl, trivial⟩) trivial trivial) ?_
          refine awp_cond rfl (fun hc5 => ?_) (fun hc5 => ?_)
          · try simp only [nn, Fm.rows_len] at hc5
            refine awp_seq (awp_region ?_)
            refine al_pure rfl rfl rfl (pure_assign rfl gU) ?_
            refine al_nil ?_
            refine awp_ret ?_
            repeat (first | refine tR ?_ | refine bR ?_)
            refine ret_ok rfl ?_ trivial
            exact xi_eq (by simp only [fieldE]; grind)
          · try simp only [nn, Fm.rows_len] at hc5
            refine awp_skip ?_
            refine awp_seq (awp_region ?_)
            refine al_pure rfl rfl rfl (pure_assign rfl gU) ?_
            refine al_nil ?_
            refine awp_ret ?_
            repeat (first | refine tR ?_ | refine bR ?_)
            refine ret_ok rfl ?_ trivial
            exact xi_eq (by simp only [fieldE]; grind)
theorem one_spec (t : List Fm) (f : Fd) (last : Bool) (rs : List (List C)) (hrs : rs = Fm.rows t) : Ctr sys 40 [.v (.c (.sl 2 rs)), xf f, xb last] [] (xi (fieldE t f last)) none [] := by
  subst hrs
  have hrl := Fm.rows_len t
  refine spec_intro Tryd.func40 rfl rfl rfl rfl rfl rfl ?_
  refine awp_seq (awp_region ?_)
  refine al_do rfl (does_box rfl rfl rfl rfl) ?_
  refine al_pure rfl rfl rfl (pure_assign rfl gU) ?_
  refine al_nil ?_
  refine awp_seq (awp_region ?_)
  refine al_pure rfl rfl rfl (pure_fieldPtr rfl gU rfl rfl) ?_
  refine al_pure rfl rfl rfl (pure_loadBox rfl gU rfl rfl rfl rfl) ?_
  refine al_pure rfl rfl rfl (pure_build rfl Tryd.underlying53 rfl gU) ?_
  refine al_do rfl (does_alloc rfl rfl rfl) ?_
  refine al_do rfl (does_store rfl rfl rfl rfl rfl rfl rfl) ?_
  refine al_nil ?_
  refine awp_sub (s := { t := [(0, _, _), (2, _, _), (4, _, _), (7, _, _)], bx := [((.l 4), _), ((.l 7), _)], ow := [] }) (sub_mk (⟨sx rfl, ⟨sx rfl, ⟨sx rfl, ⟨sx rfl, trivial⟩⟩⟩⟩) (⟨sx rfl, ⟨sx rfl, trivial⟩⟩) trivial) ?_
  refine awp_seq (awp_region ?_)
  refine al_pure rfl rfl rfl (pure_assign rfl gU) ?_
  refine al_nil ?_
  refine awp_seq ?_
  refine awp_seq (awp_region ?_)
  refine al_pure rfl rfl rfl (pure_fieldPtr rfl gU rfl rfl) ?_
  refine al_pure rfl rfl rfl (pure_loadBox rfl gU rfl rfl rfl rfl) ?_
  refine al_nil ?_
  refine awp_block ?_
  refine awp_seq (awp_region ?_)
  refine al_pure rfl rfl rfl (pure_cmp rfl rfl gU gU rfl) ?_
  refine al_pure rfl rfl rfl (pure_assign rfl gU) ?_
  refine al_nil ?_
  refine awp_sub (s := { t := [(0, _, _), (2, _, _), (4, _, _), (7, _, _), (8, _, _), (15, _, _), (16, _, _)], bx := [((.l 4), _), ((.l 7), _)], ow := [] }) (sub_mk (⟨sx rfl, ⟨sx rfl, ⟨sx rfl, ⟨sx rfl, ⟨sx rfl, ⟨sx rfl, ⟨sx rfl, trivial⟩⟩⟩⟩⟩⟩⟩) (⟨sx rfl, ⟨sx rfl, trivial⟩⟩) trivial) ?_
  refine awp_cond rfl (fun hc => ?_) (fun hc => ?_)
  · try simp only [nn, Fm.rows_len, Bool.and_true] at hc
    refine awp_seq (awp_region ?_)
    refine al_pure rfl rfl rfl (pure_fieldPtr rfl gU rfl rfl) ?_
    refine al_pure rfl rfl rfl (pure_loadBox rfl gU rfl rfl rfl rfl) ?_
    refine al_pure rfl rfl rfl (pure_fieldPtr rfl gU rfl rfl) ?_
    refine al_do rfl (does_store rfl rfl rfl rfl rfl rfl rfl) ?_
    refine al_nil ?_
    refine awp_region ?_
    refine al_pure rfl rfl rfl (pure_fieldPtr rfl gU rfl rfl) ?_
    refine al_pure rfl rfl rfl (pure_loadBox rfl gU rfl rfl rfl rfl) ?_
    refine al_lenS rfl rfl rfl rfl rfl gU (Tryd.underlying9) ?_ (fun hh => by simp at hh); intro hlen
    refine al_pure rfl rfl rfl (pure_cmp rfl rfl gU gU rfl) ?_
    refine al_pure rfl rfl rfl (pure_move rfl gU) ?_
    refine al_pure rfl rfl rfl (pure_fieldPtr rfl gU rfl rfl) ?_
    refine al_pure rfl rfl rfl (pure_loadBox rfl (fun hh => hh) rfl rfl rfl rfl) ?_
    refine al_pure rfl rfl rfl (pure_lenS rfl (fun hh => hh) (Tryd.underlying9)) ?_
    refine al_pure rfl rfl rfl (pure_cmp rfl rfl (fun hh => hh) gU rfl) ?_
    refine al_sub (s := { t := [(0, _, _), (4, _, _), (7, _, _), (25, _, _), (29, _, _)], bx := [((.l 4), _), ((.l 7), _)], ow := [] }) (sub_mk (⟨sx rfl, ⟨sx rfl, ⟨sx rfl, ⟨sx rfl, ⟨sx rfl, trivial⟩⟩⟩⟩⟩) (⟨sx rfl, ⟨sx rfl, trivial⟩⟩) trivial) ?_
    refine al_pure rfl rfl rfl (pure_and rfl rfl gU (fun _ hi => gP rfl hi)) ?_
    refine al_pure rfl rfl rfl (pure_assign rfl gU) ?_
    refine al_nil ?_
    refine awp_seq ?_
    refine awp_block ?_
    refine awp_seq (awp_region ?_)
    refine al_pure rfl rfl rfl (pure_loadBoxRow rfl gU rfl rfl rfl rfl rfl) ?_
    refine al_pure rfl rfl rfl (pure_loadBoxRow rfl gU rfl rfl rfl rfl rfl) ?_
    refine al_pure rfl rfl rfl (pure_eqStruct (ks := [1, 2, 1, 1, 1]) (.inr ⟨rfl, rfl⟩) rfl rfl gU gU Tryd.underlying53 (by kernel_rfl) (by kernel_rfl) (by kernel_rfl) rfl) ?_
    refine al_pure rfl rfl rfl (pure_assign rfl gU) ?_
    refine al_nil ?_
    refine awp_sub (s := { t := [(0, _, _), (4, _, _), (8, _, _), (111, _, _)], bx := [((.l 4), _)], ow := [] }) (sub_mk (⟨sx rfl, ⟨sx rfl, ⟨sx rfl, ⟨sx rfl, trivial⟩⟩⟩⟩) (⟨sx rfl, trivial⟩) trivial) ?_
    refine awp_cond rfl (fun hc1 => ?_) (fun hc1 => ?_)
    · try simp only [nn, Fm.rows_len, Bool.and_true] at hc1
      refine awp_seq (awp_region ?_)
      refine al_pure rfl rfl rfl (pure_assign rfl gU) ?_
      refine al_nil ?_
      refine awp_ret ?_
      repeat (first | refine tR ?_ | refine bR ?_)
      refine ret_ok rfl ?_ trivial
      exact xi_eq (by simp [fieldE, shapeB, rangeB, *] <;> grind)
    · try simp only [nn, Fm.rows_len, Bool.and_true] at hc1
      refine awp_seq (awp_region ?_)
      refine al_pure rfl rfl rfl (pure_move rfl gU) ?_
      refine al_pure rfl rfl rfl (pure_not rfl gU) ?_
      refine al_pure rfl rfl rfl (pure_assign rfl gU) ?_
      refine al_nil ?_
      refine awp_cond rfl (fun hc2 => ?_) (fun hc2 => ?_)
      · try simp only [nn, Fm.rows_len, Bool.and_true] at hc2
        refine awp_seq (awp_region ?_)
        refine al_pure rfl rfl rfl (pure_assign rfl gU) ?_
        refine al_nil ?_
        refine awp_ret ?_
        repeat (first | refine tR ?_ | refine bR ?_)
        refine ret_ok rfl ?_ trivial
        exact xi_eq (by simp [fieldE, shapeB, rangeB, *] <;> grind)
      · try simp only [nn, Fm.rows_len, Bool.and_true] at hc2
        refine awp_seq (awp_region ?_)
        refine al_pure rfl rfl rfl (pure_fieldPtr rfl gU rfl rfl) ?_
        refine al_pure rfl rfl rfl (pure_loadBox rfl gU rfl rfl rfl rfl) ?_
        refine al_pure rfl rfl rfl (pure_cmp rfl rfl gU gU rfl) ?_
        refine al_pure rfl rfl rfl (pure_assign rfl gU) ?_
        refine al_nil ?_
        refine awp_sub (s := { t := [(0, _, _), (4, _, _), (118, _, _)], bx := [((.l 4), _)], ow := [] }) (sub_mk (⟨sx rfl, ⟨sx rfl, ⟨sx rfl, trivial⟩⟩⟩) (⟨sx rfl, trivial⟩) trivial) ?_
        refine awp_cond rfl (fun hc3 => ?_) (fun hc3 => ?_)
        · try simp only [nn, Fm.rows_len, Bool.and_true] at hc3
          refine awp_seq (awp_region ?_)
          refine al_pure rfl rfl rfl (pure_assign rfl gU) ?_
          refine al_nil ?_
          refine awp_ret ?_
          repeat (first | refine tR ?_ | refine bR ?_)
          refine ret_ok rfl ?_ trivial
          exact xi_eq (by simp [fieldE, shapeB, rangeB, *] <;> grind)
        · try simp only [nn, Fm.rows_len, Bool.and_true] at hc3
          refine awp_seq (awp_region ?_)
          refine al_pure rfl rfl rfl (pure_fieldPtr rfl gU rfl rfl) ?_
          refine al_pure rfl rfl rfl (pure_loadBox rfl gU rfl rfl rfl rfl) ?_
          refine al_pure rfl rfl rfl (pure_cmp rfl rfl gU gU rfl) ?_
          refine al_pure rfl rfl rfl (pure_move rfl gU) ?_
          refine al_pure rfl rfl rfl (pure_fieldPtr rfl gU rfl rfl) ?_
          refine al_pure rfl rfl rfl (pure_loadBox rfl (fun hh => hh) rfl rfl rfl rfl) ?_
          refine al_pure rfl rfl rfl (pure_move rfl gU) ?_
          refine al_pure rfl rfl rfl (pure_lenSl rfl (fun hh => hh) rfl rfl) ?_
          refine al_pure rfl rfl rfl (pure_cmp rfl rfl (fun hh => hh) (fun hh => hh) rfl) ?_
          refine al_pure rfl rfl rfl (pure_or rfl rfl gU (fun _ hi => gP rfl hi)) ?_
          refine al_pure rfl rfl rfl (pure_assign rfl gU) ?_
          refine al_nil ?_
          refine awp_sub (s := { t := [(0, _, _), (4, _, _), (122, _, _)], bx := [((.l 4), _)], ow := [] }) (sub_mk (⟨sx rfl, ⟨sx rfl, ⟨sx rfl, trivial⟩⟩⟩) (⟨sx rfl, trivial⟩) trivial) ?_
          refine awp_cond rfl (fun hc4 => ?_) (fun hc4 => ?_)
          · try simp only [nn, Fm.rows_len, Bool.and_true] at hc4
            refine awp_seq (awp_region ?_)
            refine al_pure rfl rfl rfl (pure_assign rfl gU) ?_
            refine al_nil ?_
            refine awp_ret ?_
            repeat (first | refine tR ?_ | refine bR ?_)
            refine ret_ok rfl ?_ trivial
            exact xi_eq (by simp [fieldE, shapeB, rangeB, *] <;> grind)
          · try simp only [nn, Fm.rows_len, Bool.and_true] at hc4
            refine awp_skip ?_
            refine awp_seq ?_
            refine awp_seq (awp_region ?_)
            refine al_pure rfl rfl rfl (pure_move rfl gU) ?_
            refine al_pure rfl rfl rfl (pure_fieldPtr rfl gU rfl rfl) ?_
            refine al_pure rfl rfl rfl (pure_loadBox rfl gU rfl rfl rfl rfl) ?_
            refine al_pure rfl rfl rfl (pure_indexAddr (j := f.n.toNat) rfl rfl gU gU rfl rfl (by omega) (fun hh => Fm.rows_at (by omega))) ?_
            refine al_pure rfl rfl rfl (pure_fieldRo rfl gU rfl rfl) ?_
            refine al_pure rfl rfl rfl (pure_loadRo rfl gU rfl rfl rfl) ?_
            refine al_lenSl rfl rfl rfl rfl rfl gU rfl rfl ?_ (fun hh => by simp at hh); intro hlen
            refine al_pure rfl rfl rfl (pure_move rfl gU) ?_
            refine al_nil ?_
            refine awp_sub (s := { t := [(138, _, _), (139, _, _), (140, _, _)], bx := [], ow := [] }) (sub_mk (⟨sx rfl, ⟨sx rfl, ⟨sx rfl, trivial⟩⟩⟩) trivial trivial) ?_
            refine awp_block ?_
            exfalso
            grind
  · try simp only [nn, Fm.rows_len, Bool.and_true] at hc
    refine awp_seq (awp_region ?_)
    refine al_pure rfl rfl rfl (pure_cmp rfl rfl gU gU rfl) ?_
    refine al_pure rfl rfl rfl (pure_assign rfl gU) ?_
    refine al_nil ?_
    refine awp_cond rfl (fun hc2 => ?_) (fun hc2 => ?_)
    · try simp only [nn, Fm.rows_len, Bool.and_true] at hc2
      refine awp_seq (awp_region ?_)
      refine al_pure rfl rfl rfl (pure_fieldPtr rfl gU rfl rfl) ?_
      refine al_pure rfl rfl rfl (pure_loadBox rfl gU rfl rfl rfl rfl) ?_
      refine al_pure rfl rfl rfl (pure_fieldPtr rfl gU rfl rfl) ?_
      refine al_do rfl (does_store rfl rfl rfl rfl rfl rfl rfl) ?_
      refine al_nil ?_
      refine awp_sub (s := { t := [(0, _, _), (4, _, _), (7, _, _)], bx := [((.l 4), _), ((.l 7), _)], ow := [] }) (sub_mk (⟨sx rfl, ⟨sx rfl, ⟨sx rfl, trivial⟩⟩⟩) (⟨sx rfl, ⟨sx rfl, trivial⟩⟩) trivial) ?_
      refine awp_region ?_
      refine al_pure rfl rfl rfl (pure_fieldPtr rfl gU rfl rfl) ?_
      refine al_pure rfl rfl rfl (pure_loadBox rfl gU rfl rfl rfl rfl) ?_
      refine al_pure rfl rfl rfl (pure_cmp rfl rfl gU gU rfl) ?_
      refine al_pure rfl rfl rfl (pure_move rfl gU) ?_
      refine al_pure rfl rfl rfl (pure_fieldPtr rfl gU rfl rfl) ?_
      refine al_pure rfl rfl rfl (pure_loadBox rfl (fun hh => hh) rfl rfl rfl rfl) ?_
      refine al_pure rfl rfl rfl (pure_cmp rfl rfl (fun hh => hh) gU rfl) ?_
      refine al_pure rfl rfl rfl (pure_and rfl rfl gU (fun _ hi => gP rfl hi)) ?_
      refine al_pure rfl rfl rfl (pure_assign rfl gU) ?_
      refine al_nil ?_
      refine awp_sub (s := { t := [(0, _, _), (4, _, _), (7, _, _), (8, _, _)], bx := [((.l 4), _), ((.l 7), _)], ow := [] }) (sub_mk (⟨sx rfl, ⟨sx rfl, ⟨sx rfl, ⟨sx rfl, trivial⟩⟩⟩⟩) (⟨sx rfl, ⟨sx rfl, trivial⟩⟩) trivial) ?_
      refine awp_seq ?_
      refine awp_block ?_
      refine awp_seq (awp_region ?_)
      refine al_pure rfl rfl rfl (pure_loadBoxRow rfl gU rfl rfl rfl rfl rfl) ?_
      refine al_pure rfl rfl rfl (pure_loadBoxRow rfl gU rfl rfl rfl rfl rfl) ?_
      refine al_pure rfl rfl rfl (pure_eqStruct (ks := [1, 2, 1, 1, 1]) (.inr ⟨rfl, rfl⟩) rfl rfl gU gU Tryd.underlying53 (by kernel_rfl) (by kernel_rfl) (by kernel_rfl) rfl) ?_
      refine al_pure rfl rfl rfl (pure_assign rfl gU) ?_
      refine al_nil ?_
      refine awp_cond rfl (fun hc5 => ?_) (fun hc5 => ?_)
      · try simp only [nn, Fm.rows_len, Bool.and_true] at hc5
        refine awp_seq (awp_region ?_)
        refine al_pure rfl rfl rfl (pure_assign rfl gU) ?_
        refine al_nil ?_
        refine awp_ret ?_
        repeat (first | refine tR ?_ | refine bR ?_)
        refine ret_ok rfl ?_ trivial
        exact xi_eq (by simp [fieldE, shapeB, rangeB, *] <;> grind)
      · try simp only [nn, Fm.rows_len, Bool.and_true] at hc5
        refine awp_seq (awp_region ?_)
        refine al_pure rfl rfl rfl (pure_move rfl gU) ?_
        refine al_pure rfl rfl rfl (pure_not rfl gU) ?_
        refine al_pure rfl rfl rfl (pure_assign rfl gU) ?_
        refine al_nil ?_
        refine awp_sub (s := { t := [(0, _, _), (4, _, _), (115, _, _)], bx := [((.l 4), _)], ow := [] }) (sub_mk (⟨sx rfl, ⟨sx rfl, ⟨sx rfl, trivial⟩⟩⟩) (⟨sx rfl, trivial⟩) trivial) ?_
        refine awp_cond rfl (fun hc6 => ?_) (fun hc6 => ?_)
        · try simp only [nn, Fm.rows_len, Bool.and_true] at hc6
          refine awp_seq (awp_region ?_)
          refine al_pure rfl rfl rfl (pure_assign rfl gU) ?_
          refine al_nil ?_
          refine awp_ret ?_
          repeat (first | refine tR ?_ | refine bR ?_)
          refine ret_ok rfl ?_ trivial
          exact xi_eq (by simp [fieldE, shapeB, rangeB, *] <;> grind)
        · try simp only [nn, Fm.rows_len, Bool.and_true] at hc6
          refine awp_seq (awp_region ?_)
          refine al_pure rfl rfl rfl (pure_fieldPtr rfl gU rfl rfl) ?_
          refine al_pure rfl rfl rfl (pure_loadBox rfl gU rfl rfl rfl rfl) ?_
          refine al_pure rfl rfl rfl (pure_cmp rfl rfl gU gU rfl) ?_
          refine al_pure rfl rfl rfl (pure_assign rfl gU) ?_
          refine al_nil ?_
          refine awp_cond rfl (fun hc7 => ?_) (fun hc7 => ?_)
          · try simp only [nn, Fm.rows_len, Bool.and_true] at hc7
            refine awp_seq (awp_region ?_)
            refine al_pure rfl rfl rfl (pure_assign rfl gU) ?_
            refine al_nil ?_
            refine awp_ret ?_
            repeat (first | refine tR ?_ | refine bR ?_)
            refine ret_ok rfl ?_ trivial
            exact xi_eq (by simp [fieldE, shapeB, rangeB, *] <;> grind)
          · try simp only [nn, Fm.rows_len, Bool.and_true] at hc7
            refine awp_seq (awp_region ?_)
            refine al_pure rfl rfl rfl (pure_fieldPtr rfl gU rfl rfl) ?_
            refine al_pure rfl rfl rfl (pure_loadBox rfl gU rfl rfl rfl rfl) ?_
            refine al_pure rfl rfl rfl (pure_cmp rfl rfl gU gU rfl) ?_
            refine al_pure rfl rfl rfl (pure_move rfl gU) ?_
            refine al_pure rfl rfl rfl (pure_fieldPtr rfl gU rfl rfl) ?_
            refine al_pure rfl rfl rfl (pure_loadBox rfl (fun hh => hh) rfl rfl rfl rfl) ?_
            refine al_pure rfl rfl rfl (pure_move rfl gU) ?_
            refine al_pure rfl rfl rfl (pure_lenSl rfl (fun hh => hh) rfl rfl) ?_
            refine al_sub (s := { t := [(0, _, _), (4, _, _), (126, _, _), (128, _, _), (130, _, _)], bx := [((.l 4), _)], ow := [] }) (sub_mk (⟨sx rfl, ⟨sx rfl, ⟨sx rfl, ⟨sx rfl, ⟨sx rfl, trivial⟩⟩⟩⟩⟩) (⟨sx rfl, trivial⟩) trivial) ?_
            refine al_pure rfl rfl rfl (pure_cmp rfl rfl (fun hh => hh) (fun hh => hh) rfl) ?_
            refine al_pure rfl rfl rfl (pure_or rfl rfl gU (fun _ hi => gP rfl hi)) ?_
            refine al_pure rfl rfl rfl (pure_assign rfl gU) ?_
            refine al_nil ?_
            refine awp_cond rfl (fun hc8 => ?_) (fun hc8 => ?_)
            · try simp only [nn, Fm.rows_len, Bool.and_true] at hc8
              refine awp_seq (awp_region ?_)
              refine al_pure rfl rfl rfl (pure_assign rfl gU) ?_
              refine al_nil ?_
              refine awp_ret ?_
              repeat (first | refine tR ?_ | refine bR ?_)
              refine ret_ok rfl ?_ trivial
              exact xi_eq (by simp [fieldE, shapeB, rangeB, *] <;> grind)
            · try simp only [nn, Fm.rows_len, Bool.and_true] at hc8
              refine awp_skip ?_
              refine awp_seq ?_
              refine awp_seq (awp_region ?_)
              refine al_pure rfl rfl rfl (pure_move rfl gU) ?_
              refine al_pure rfl rfl rfl (pure_fieldPtr rfl gU rfl rfl) ?_
              refine al_pure rfl rfl rfl (pure_loadBox rfl gU rfl rfl rfl rfl) ?_
              refine al_pure rfl rfl rfl (pure_indexAddr (j := f.n.toNat) rfl rfl gU gU rfl rfl (by omega) (fun hh => Fm.rows_at (by omega))) ?_
              refine al_pure rfl rfl rfl (pure_fieldRo rfl gU rfl rfl) ?_
              refine al_pure rfl rfl rfl (pure_loadRo rfl gU rfl rfl rfl) ?_
              refine al_lenSl rfl rfl rfl rfl rfl gU rfl rfl ?_ (fun hh => by simp at hh); intro hlen
              refine al_pure rfl rfl rfl (pure_move rfl gU) ?_
              refine al_nil ?_
              refine awp_sub (s := { t := [(138, _, _), (139, _, _), (140, _, _)], bx := [], ow := [] }) (sub_mk (⟨sx rfl, ⟨sx rfl, ⟨sx rfl, trivial⟩⟩⟩) trivial trivial) ?_
              refine awp_block ?_
              exfalso
              grind
    · try simp only [nn, Fm.rows_len, Bool.and_true] at hc2
      refine awp_seq (awp_region ?_)
      refine al_pure rfl rfl rfl (pure_cmp rfl rfl gU gU rfl) ?_
      refine al_pure rfl rfl rfl (pure_assign rfl gU) ?_
      refine al_nil ?_
      refine awp_cond rfl (fun hc3 => ?_) (fun hc3 => ?_)
      · try simp only [nn, Fm.rows_len, Bool.and_true] at hc3
        refine awp_seq (awp_region ?_)
        refine al_pure rfl rfl rfl (pure_fieldPtr rfl gU rfl rfl) ?_
        refine al_pure rfl rfl rfl (pure_loadBox rfl gU rfl rfl rfl rfl) ?_
        refine al_pure rfl rfl rfl (pure_fieldPtr rfl gU rfl rfl) ?_
        refine al_do rfl (does_store rfl rfl rfl rfl rfl rfl rfl) ?_
        refine al_nil ?_
        refine awp_sub (s := { t := [(0, _, _), (4, _, _), (7, _, _)], bx := [((.l 4), _), ((.l 7), _)], ow := [] }) (sub_mk (⟨sx rfl, ⟨sx rfl, ⟨sx rfl, trivial⟩⟩⟩) (⟨sx rfl, ⟨sx rfl, trivial⟩⟩) trivial) ?_
        refine awp_region ?_
        refine al_pure rfl rfl rfl (pure_fieldPtr rfl gU rfl rfl) ?_
        refine al_pure rfl rfl rfl (pure_loadBox rfl gU rfl rfl rfl rfl) ?_
        refine al_pure rfl rfl rfl (pure_cmp rfl rfl gU gU rfl) ?_
        refine al_pure rfl rfl rfl (pure_move rfl gU) ?_
        refine al_pure rfl rfl rfl (pure_fieldPtr rfl gU rfl rfl) ?_
        refine al_pure rfl rfl rfl (pure_loadBox rfl (fun hh => hh) rfl rfl rfl rfl) ?_
        refine al_pure rfl rfl rfl (pure_cmp rfl rfl (fun hh => hh) gU rfl) ?_
        refine al_pure rfl rfl rfl (pure_and rfl rfl gU (fun _ hi => gP rfl hi)) ?_
        refine al_pure rfl rfl rfl (pure_assign rfl gU) ?_
        refine al_nil ?_
        refine awp_sub (s := { t := [(0, _, _), (4, _, _), (7, _, _), (8, _, _)], bx := [((.l 4), _), ((.l 7), _)], ow := [] }) (sub_mk (⟨sx rfl, ⟨sx rfl, ⟨sx rfl, ⟨sx rfl, trivial⟩⟩⟩⟩) (⟨sx rfl, ⟨sx rfl, trivial⟩⟩) trivial) ?_
        refine awp_seq ?_
        refine awp_block ?_
        refine awp_seq (awp_region ?_)
        refine al_pure rfl rfl rfl (pure_loadBoxRow rfl gU rfl rfl rfl rfl rfl) ?_
        refine al_pure rfl rfl rfl (pure_loadBoxRow rfl gU rfl rfl rfl rfl rfl) ?_
        refine al_pure rfl rfl rfl (pure_eqStruct (ks := [1, 2, 1, 1, 1]) (.inr ⟨rfl, rfl⟩) rfl rfl gU gU Tryd.underlying53 (by kernel_rfl) (by kernel_rfl) (by kernel_rfl) rfl) ?_
        refine al_pure rfl rfl rfl (pure_assign rfl gU) ?_
        refine al_nil ?_
        refine awp_cond rfl (fun hc9 => ?_) (fun hc9 => ?_)
        · try simp only [nn, Fm.rows_len, Bool.and_true] at hc9
          refine awp_seq (awp_region ?_)
          refine al_pure rfl rfl rfl (pure_assign rfl gU) ?_
          refine al_nil ?_
          refine awp_ret ?_
          repeat (first | refine tR ?_ | refine bR ?_)
          refine ret_ok rfl ?_ trivial
          exact xi_eq (by simp [fieldE, shapeB, rangeB, *] <;> grind)
        · try simp only [nn, Fm.rows_len, Bool.and_true] at hc9
          refine awp_seq (awp_region ?_)
          refine al_pure rfl rfl rfl (pure_move rfl gU) ?_
          refine al_pure rfl rfl rfl (pure_not rfl gU) ?_
          refine al_pure rfl rfl rfl (pure_assign rfl gU) ?_
          refine al_nil ?_
          refine awp_sub (s := { t := [(0, _, _), (4, _, _), (115, _, _)], bx := [((.l 4), _)], ow := [] }) (sub_mk (⟨sx rfl, ⟨sx rfl, ⟨sx rfl, trivial⟩⟩⟩) (⟨sx rfl, trivial⟩) trivial) ?_
          refine awp_cond rfl (fun hc10 => ?_) (fun hc10 => ?_)
          · try simp only [nn, Fm.rows_len, Bool.and_true] at hc10
            refine awp_seq (awp_region ?_)
            refine al_pure rfl rfl rfl (pure_assign rfl gU) ?_
            refine al_nil ?_
            refine awp_ret ?_
            repeat (first | refine tR ?_ | refine bR ?_)
            refine ret_ok rfl ?_ trivial
            exact xi_eq (by simp [fieldE, shapeB, rangeB, *] <;> grind)
          · try simp only [nn, Fm.rows_len, Bool.and_true] at hc10
            refine awp_seq (awp_region ?_)
            refine al_pure rfl rfl rfl (pure_fieldPtr rfl gU rfl rfl) ?_
            refine al_pure rfl rfl rfl (pure_loadBox rfl gU rfl rfl rfl rfl) ?_
            refine al_pure rfl rfl rfl (pure_cmp rfl rfl gU gU rfl) ?_
            refine al_pure rfl rfl rfl (pure_assign rfl gU) ?_
            refine al_nil ?_
            refine awp_cond rfl (fun hc11 => ?_) (fun hc11 => ?_)
            · try simp only [nn, Fm.rows_len, Bool.and_true] at hc11
              refine awp_seq (awp_region ?_)
              refine al_pure rfl rfl rfl (pure_assign rfl gU) ?_
              refine al_nil ?_
              refine awp_ret ?_
              repeat (first | refine tR ?_ | refine bR ?_)
              refine ret_ok rfl ?_ trivial
              exact xi_eq (by simp [fieldE, shapeB, rangeB, *] <;> grind)
            · try simp only [nn, Fm.rows_len, Bool.and_true] at hc11
              refine awp_seq (awp_region ?_)
              refine al_pure rfl rfl rfl (pure_fieldPtr rfl gU rfl rfl) ?_
              refine al_pure rfl rfl rfl (pure_loadBox rfl gU rfl rfl rfl rfl) ?_
              refine al_pure rfl rfl rfl (pure_cmp rfl rfl gU gU rfl) ?_
              refine al_pure rfl rfl rfl (pure_move rfl gU) ?_
              refine al_pure rfl rfl rfl (pure_fieldPtr rfl gU rfl rfl) ?_
              refine al_pure rfl rfl rfl (pure_loadBox rfl (fun hh => hh) rfl rfl rfl rfl) ?_
              refine al_pure rfl rfl rfl (pure_move rfl gU) ?_
              refine al_pure rfl rfl rfl (pure_lenSl rfl (fun hh => hh) rfl rfl) ?_
              refine al_sub (s := { t := [(0, _, _), (4, _, _), (126, _, _), (128, _, _), (130, _, _)], bx := [((.l 4), _)], ow := [] }) (sub_mk (⟨sx rfl, ⟨sx rfl, ⟨sx rfl, ⟨sx rfl, ⟨sx rfl, trivial⟩⟩⟩⟩⟩) (⟨sx rfl, trivial⟩) trivial) ?_
              refine al_pure rfl rfl rfl (pure_cmp rfl rfl (fun hh => hh) (fun hh => hh) rfl) ?_
              refine al_pure rfl rfl rfl (pure_or rfl rfl gU (fun _ hi => gP rfl hi)) ?_
              refine al_pure rfl rfl rfl (pure_assign rfl gU) ?_
              refine al_nil ?_
              refine awp_cond rfl (fun hc12 => ?_) (fun hc12 => ?_)
              · try simp only [nn, Fm.rows_len, Bool.and_true] at hc12
                refine awp_seq (awp_region ?_)
                refine al_pure rfl rfl rfl (pure_assign rfl gU) ?_
                refine al_nil ?_
                refine awp_ret ?_
                repeat (first | refine tR ?_ | refine bR ?_)
                refine ret_ok rfl ?_ trivial
                exact xi_eq (by simp [fieldE, shapeB, rangeB, *] <;> grind)
              · try simp only [nn, Fm.rows_len, Bool.and_true] at hc12
                refine awp_skip ?_
                refine awp_seq ?_
                refine awp_seq (awp_region ?_)
                refine al_pure rfl rfl rfl (pure_move rfl gU) ?_
                refine al_pure rfl rfl rfl (pure_fieldPtr rfl gU rfl rfl) ?_
                refine al_pure rfl rfl rfl (pure_loadBox rfl gU rfl rfl rfl rfl) ?_
                refine al_pure rfl rfl rfl (pure_indexAddr (j := f.n.toNat) rfl rfl gU gU rfl rfl (by omega) (fun hh => Fm.rows_at (by omega))) ?_
                refine al_pure rfl rfl rfl (pure_fieldRo rfl gU rfl rfl) ?_
                refine al_pure rfl rfl rfl (pure_loadRo rfl gU rfl rfl rfl) ?_
                refine al_lenSl rfl rfl rfl rfl rfl gU rfl rfl ?_ (fun hh => by simp at hh); intro hlen
                refine al_pure rfl rfl rfl (pure_move rfl gU) ?_
                refine al_nil ?_
                refine awp_sub (s := { t := [(138, _, _), (139, _, _), (140, _, _)], bx := [], ow := [] }) (sub_mk (⟨sx rfl, ⟨sx rfl, ⟨sx rfl, trivial⟩⟩⟩) trivial trivial) ?_
                refine awp_block ?_
                exfalso
                grind
      · try simp only [nn, Fm.rows_len, Bool.and_true] at hc3
        refine awp_seq (awp_region ?_)
        refine al_pure rfl rfl rfl (pure_cmp rfl rfl gU gU rfl) ?_
        refine al_pure rfl rfl rfl (pure_assign rfl gU) ?_
        refine al_nil ?_
        refine awp_sub (s := { t := [(0, _, _), (2, _, _), (4, _, _), (7, _, _), (8, _, _), (15, _, _), (57, _, _)], bx := [((.l 4), _), ((.l 7), _)], ow := [] }) (sub_mk (⟨sx rfl, ⟨sx rfl, ⟨sx rfl, ⟨sx rfl, ⟨sx rfl, ⟨sx rfl, ⟨sx rfl, trivial⟩⟩⟩⟩⟩⟩⟩) (⟨sx rfl, ⟨sx rfl, trivial⟩⟩) trivial) ?_
        refine awp_cond rfl (fun hc4 => ?_) (fun hc4 => ?_)
        · try simp only [nn, Fm.rows_len, Bool.and_true] at hc4
          refine awp_region ?_
          refine al_pure rfl rfl rfl (pure_fieldPtr rfl gU rfl rfl) ?_
          refine al_pure rfl rfl rfl (pure_loadBox rfl gU rfl rfl rfl rfl) ?_
          refine al_pure rfl rfl rfl (pure_fieldPtr rfl gU rfl rfl) ?_
          refine al_do rfl (does_store rfl rfl rfl rfl rfl rfl rfl) ?_
          refine al_nil ?_
          refine awp_seq ?_
          refine awp_block ?_
          refine awp_seq (awp_region ?_)
          refine al_pure rfl rfl rfl (pure_loadBoxRow rfl gU rfl rfl rfl rfl rfl) ?_
          refine al_pure rfl rfl rfl (pure_loadBoxRow rfl gU rfl rfl rfl rfl rfl) ?_
          refine al_pure rfl rfl rfl (pure_eqStruct (ks := [1, 2, 1, 1, 1]) (.inr ⟨rfl, rfl⟩) rfl rfl gU gU Tryd.underlying53 (by kernel_rfl) (by kernel_rfl) (by kernel_rfl) rfl) ?_
          refine al_pure rfl rfl rfl (pure_assign rfl gU) ?_
          refine al_nil ?_
          refine awp_sub (s := { t := [(0, _, _), (4, _, _), (8, _, _), (111, _, _)], bx := [((.l 4), _)], ow := [] }) (sub_mk (⟨sx rfl, ⟨sx rfl, ⟨sx rfl, ⟨sx rfl, trivial⟩⟩⟩⟩) (⟨sx rfl, trivial⟩) trivial) ?_
          refine awp_cond rfl (fun hc5 => ?_) (fun hc5 => ?_)
          · try simp only [nn, Fm.rows_len, Bool.and_true] at hc5
            refine awp_seq (awp_region ?_)
            refine al_pure rfl rfl rfl (pure_assign rfl gU) ?_
            refine al_nil ?_
            refine awp_ret ?_
            repeat (first | refine tR ?_ | refine bR ?_)
            refine ret_ok rfl ?_ trivial
            exact xi_eq (by simp [fieldE, shapeB, rangeB, *] <;> grind)
          · try simp only [nn, Fm.rows_len, Bool.and_true] at hc5
            refine awp_seq (awp_region ?_)
            refine al_pure rfl rfl rfl (pure_move rfl gU) ?_
            refine al_pure rfl rfl rfl (pure_not rfl gU) ?_
            refine al_pure rfl rfl rfl (pure_assign rfl gU) ?_
            refine al_nil ?_
            refine awp_cond rfl (fun hc6 => ?_) (fun hc6 => ?_)
            · try simp only [nn, Fm.rows_len, Bool.and_true] at hc6
              refine awp_seq (awp_region ?_)
              refine al_pure rfl rfl rfl (pure_assign rfl gU) ?_
              refine al_nil ?_
              refine awp_ret ?_
              repeat (first | refine tR ?_ | refine bR ?_)
              refine ret_ok rfl ?_ trivial
              exact xi_eq (by simp [fieldE, shapeB, rangeB, *] <;> grind)
            · try simp only [nn, Fm.rows_len, Bool.and_true] at hc6
              refine awp_seq (awp_region ?_)
              refine al_pure rfl rfl rfl (pure_fieldPtr rfl gU rfl rfl) ?_
              refine al_pure rfl rfl rfl (pure_loadBox rfl gU rfl rfl rfl rfl) ?_
              refine al_pure rfl rfl rfl (pure_cmp rfl rfl gU gU rfl) ?_
              refine al_pure rfl rfl rfl (pure_assign rfl gU) ?_
              refine al_nil ?_
              refine awp_sub (s := { t := [(0, _, _), (4, _, _), (118, _, _)], bx := [((.l 4), _)], ow := [] }) (sub_mk (⟨sx rfl, ⟨sx rfl, ⟨sx rfl, trivial⟩⟩⟩) (⟨sx rfl, trivial⟩) trivial) ?_
              refine awp_cond rfl (fun hc7 => ?_) (fun hc7 => ?_)
              · try simp only [nn, Fm.rows_len, Bool.and_true] at hc7
                refine awp_seq (awp_region ?_)
                refine al_pure rfl rfl rfl (pure_assign rfl gU) ?_
                refine al_nil ?_
                refine awp_ret ?_
                repeat (first | refine tR ?_ | refine bR ?_)
                refine ret_ok rfl ?_ trivial
                exact xi_eq (by simp [fieldE, shapeB, rangeB, *] <;> grind)
              · try simp only [nn, Fm.rows_len, Bool.and_true] at hc7
                refine awp_seq (awp_region ?_)
                refine al_pure rfl rfl rfl (pure_fieldPtr rfl gU rfl rfl) ?_
                refine al_pure rfl rfl rfl (pure_loadBox rfl gU rfl rfl rfl rfl) ?_
                refine al_pure rfl rfl rfl (pure_cmp rfl rfl gU gU rfl) ?_
                refine al_pure rfl rfl rfl (pure_move rfl gU) ?_
                refine al_pure rfl rfl rfl (pure_fieldPtr rfl gU rfl rfl) ?_
                refine al_pure rfl rfl rfl (pure_loadBox rfl (fun hh => hh) rfl rfl rfl rfl) ?_
                refine al_pure rfl rfl rfl (pure_move rfl gU) ?_
                refine al_pure rfl rfl rfl (pure_lenSl rfl (fun hh => hh) rfl rfl) ?_
                refine al_pure rfl rfl rfl (pure_cmp rfl rfl (fun hh => hh) (fun hh => hh) rfl) ?_
                refine al_pure rfl rfl rfl (pure_or rfl rfl gU (fun _ hi => gP rfl hi)) ?_
                refine al_pure rfl rfl rfl (pure_assign rfl gU) ?_
                refine al_nil ?_
                refine awp_sub (s := { t := [(0, _, _), (4, _, _), (122, _, _)], bx := [((.l 4), _)], ow := [] }) (sub_mk (⟨sx rfl, ⟨sx rfl, ⟨sx rfl, trivial⟩⟩⟩) (⟨sx rfl, trivial⟩) trivial) ?_
                refine awp_cond rfl (fun hc8 => ?_) (fun hc8 => ?_)
                · try simp only [nn, Fm.rows_len, Bool.and_true] at hc8
                  refine awp_seq (awp_region ?_)
                  refine al_pure rfl rfl rfl (pure_assign rfl gU) ?_
                  refine al_nil ?_
                  refine awp_ret ?_
                  repeat (first | refine tR ?_ | refine bR ?_)
                  refine ret_ok rfl ?_ trivial
                  exact xi_eq (by simp [fieldE, shapeB, rangeB, *] <;> grind)
                · try simp only [nn, Fm.rows_len, Bool.and_true] at hc8
                  have hF : fieldE t f last = if plainB (t.getD f.n.toNat default).fields = false then 10 else 0 := by simp [fieldE, shapeB, rangeB, *] <;> grind
                  have hrf := Fd.rows_len (t.getD f.n.toNat default).fields
                  rw [hF]
                  refine awp_skip ?_
                  refine awp_seq ?_
                  refine awp_seq (awp_region ?_)
                  refine al_pure rfl rfl rfl (pure_move rfl gU) ?_
                  refine al_pure rfl rfl rfl (pure_fieldPtr rfl gU rfl rfl) ?_
                  refine al_pure rfl rfl rfl (pure_loadBox rfl gU rfl rfl rfl rfl) ?_
                  refine al_pure rfl rfl rfl (pure_indexAddr (j := f.n.toNat) rfl rfl gU gU rfl rfl (by omega) (fun hh => Fm.rows_at (by omega))) ?_
                  refine al_pure rfl rfl rfl (pure_fieldRo rfl gU rfl rfl) ?_
                  refine al_pure rfl rfl rfl (pure_loadRo rfl gU rfl rfl rfl) ?_
                  refine al_lenSl rfl rfl rfl rfl rfl gU rfl rfl ?_ (fun hh => by simp at hh); intro hlen
                  refine al_pure rfl rfl rfl (pure_move rfl gU) ?_
                  refine al_nil ?_
                  refine awp_sub (s := { t := [(138, _, _), (139, _, _), (140, _, _)], bx := [], ow := [] }) (sub_mk (⟨sx rfl, ⟨sx rfl, ⟨sx rfl, trivial⟩⟩⟩) trivial trivial) ?_
                  refine awp_block ?_
                  refine awp_for (ι := Nat) { t := [(138, _, _), (139, _, _)], bx := [], ow := [] } (fun k => [(140, true, xi (k : Int))]) (fun k => []) (fun k => k ≤ (t.getD f.n.toNat default).fields.length ∧ plainB ((t.getD f.n.toNat default).fields.drop k) = plainB (t.getD f.n.toNat default).fields) (fun k => (t.getD f.n.toNat default).fields.length - k) (0) (by simp) (sub_mk (⟨sx rfl, ⟨sx rfl, ⟨sx rfl, trivial⟩⟩⟩) trivial trivial) ?_
                  intro k hok
                  dsimp only [List.cons_append, List.nil_append]
                  obtain ⟨hk, hi⟩ := hok
                  refine awp_seq (awp_region ?_)
                  refine al_pure rfl rfl rfl (pure_cmp rfl rfl gU gU rfl) ?_
                  refine al_nil ?_
                  refine awp_seq ?_
                  refine awp_cond rfl (fun hc9 => ?_) (fun hc9 => ?_)
                  · simp only [decide_eq_true_eq, hrf] at hc9
                    rw [drop_getD (by omega), plainB, List.all_cons] at hi
                    refine awp_skip ?_
                    refine awp_seq ?_
                    refine awp_block ?_
                    refine awp_seq (awp_region ?_)
                    refine al_pure rfl rfl rfl (pure_indexAddr rfl rfl gU gU rfl rfl rfl (fun hh => Fd.rows_at (by omega))) ?_
                    refine al_pure rfl rfl rfl (pure_loadRoRow rfl gU rfl rfl rfl rfl) ?_
                    refine al_do rfl (does_alloc rfl rfl rfl) ?_
                    refine al_do rfl (does_store rfl rfl rfl rfl rfl rfl rfl) ?_
                    refine al_nil ?_
                    refine awp_seq (awp_region ?_)
                    refine al_pure rfl rfl rfl (pure_fieldPtr rfl gU rfl rfl) ?_
                    refine al_pure rfl rfl rfl (pure_loadBox rfl gU rfl rfl rfl rfl) ?_
                    refine al_pure rfl rfl rfl (pure_cmp rfl rfl gU gU rfl) ?_
                    refine al_pure rfl rfl rfl (pure_move rfl gU) ?_
                    refine al_pure rfl rfl rfl (pure_fieldPtr rfl gU rfl rfl) ?_
                    refine al_pure rfl rfl rfl (pure_loadBox rfl (fun hh => hh) rfl rfl rfl rfl) ?_
                    refine al_pure rfl rfl rfl (pure_cmp rfl rfl (fun hh => hh) gU rfl) ?_
                    refine al_pure rfl rfl rfl (pure_or rfl rfl gU (fun _ hi => gP rfl hi)) ?_
                    refine al_nil ?_
                    refine awp_sub (s := { t := [(138, _, _), (139, _, _), (140, _, _), (151, _, _)], bx := [], ow := [] }) (sub_mk (⟨sx rfl, ⟨sx rfl, ⟨sx rfl, ⟨sx rfl, trivial⟩⟩⟩⟩) trivial trivial) ?_
                    refine awp_cond rfl (fun hc13 => ?_) (fun hc13 => ?_)
                    · try simp only [nn, Fm.rows_len, Bool.and_true] at hc13
                      refine awp_seq (awp_region ?_)
                      refine al_pure rfl rfl rfl (pure_assign rfl gU) ?_
                      refine al_nil ?_
                      refine awp_ret ?_
                      repeat (first | refine tR ?_ | refine bR ?_)
                      refine ret_ok rfl ?_ trivial
                      exact xi_eq (by grind)
                    · try simp only [nn, Fm.rows_len, Bool.and_true] at hc13
                      refine awp_skip ?_
                      refine awp_region ?_
                      refine al_pure rfl rfl rfl (pure_arith rfl rfl gU gU rfl (IntWalk.i64_in _ (by omega))) ?_
                      refine al_pure rfl rfl rfl (pure_move rfl gU) ?_
                      refine al_nil ?_
                      refine ⟨k + 1, ?_, ?_, sub_mk (⟨⟨_, rfl, ?_⟩, ⟨sx rfl, ⟨sx rfl, trivial⟩⟩⟩) trivial trivial⟩
                      all_goals (first | rfl | omega | grind [plainB])
                  · simp only [decide_eq_false_iff_not, hrf] at hc9
                    rw [List.drop_of_length_le (by omega)] at hi
                    refine awp_exit ?_
                    repeat (first | refine thenS_exit ?_ | refine blockS_hit ?_ | refine blockS_miss rfl ?_)
                    refine awp_seq (awp_region ?_)
                    refine al_pure rfl rfl rfl (pure_assign rfl gU) ?_
                    refine al_nil ?_
                    refine awp_ret ?_
                    repeat (first | refine tR ?_ | refine bR ?_)
                    refine ret_ok rfl ?_ trivial
                    exact xi_eq (by rw [← hi]; rfl)
        · try simp only [nn, Fm.rows_len, Bool.and_true] at hc4
          refine awp_seq (awp_region ?_)
          refine al_pure rfl rfl rfl (pure_cmp rfl rfl gU gU rfl) ?_
          refine al_pure rfl rfl rfl (pure_assign rfl gU) ?_
          refine al_nil ?_
          refine awp_cond rfl (fun hc14 => ?_) (fun hc14 => ?_)
          · try simp only [nn, Fm.rows_len, Bool.and_true] at hc14
            refine awp_seq ?_
            refine awp_drawn' (by kernel_rfl) ?_
            refine dr_pure rfl rfl rfl rfl (pure_fieldPtr rfl gU rfl rfl) ?_
            refine dr_load rfl rfl rfl rfl rfl rfl rfl gU rfl rfl rfl rfl ?_
            refine dr_pure rfl rfl rfl rfl (pure_fieldPtr rfl gU rfl rfl) ?_
            refine dr_load rfl rfl rfl rfl rfl rfl rfl gU rfl rfl rfl rfl ?_
            refine dr_pure rfl rfl rfl rfl (pure_fieldPtr rfl gU rfl rfl) ?_
            refine dr_store rfl rfl rfl rfl rfl rfl rfl rfl rfl rfl rfl rfl ?_
            refine dr_pure rfl rfl rfl rfl (pure_fieldPtr rfl gU rfl rfl) ?_
            refine dr_store rfl rfl rfl rfl rfl rfl rfl rfl rfl rfl rfl rfl ?_
            refine dr_nil (by kernel_rfl) ?_
            refine awp_sub (s := { t := [(0, _, _), (4, _, _), (7, _, _)], bx := [((.l 4), _), ((.l 7), _)], ow := [] }) (sub_mk (⟨sx rfl, ⟨sx rfl, ⟨sx rfl, trivial⟩⟩⟩) (⟨sx rfl, ⟨sx rfl, trivial⟩⟩) trivial) ?_
            refine awp_region ?_
            refine al_pure rfl rfl rfl (pure_fieldPtr rfl gU rfl rfl) ?_
            refine al_pure rfl rfl rfl (pure_loadBox rfl gU rfl rfl rfl rfl) ?_
            refine al_pure rfl rfl rfl (pure_cmp rfl rfl gU gU rfl) ?_
            refine al_pure rfl rfl rfl (pure_move rfl gU) ?_
            refine al_pure rfl rfl rfl (pure_fieldPtr rfl gU rfl rfl) ?_
            refine al_pure rfl rfl rfl (pure_loadBox rfl (fun hh => hh) rfl rfl rfl rfl) ?_
            refine al_pure rfl rfl rfl (pure_fieldPtr rfl gU rfl rfl) ?_
            refine al_pure rfl rfl rfl (pure_loadBox rfl (fun hh => hh) rfl rfl rfl rfl) ?_
            refine al_pure rfl rfl rfl (pure_cmp rfl rfl (fun hh => hh) (fun hh => hh) rfl) ?_
            refine al_pure rfl rfl rfl (pure_and rfl rfl gU (fun _ hi => gP rfl hi)) ?_
            refine al_pure rfl rfl rfl (pure_move rfl gU) ?_
            refine al_pure rfl rfl rfl (pure_fieldPtr rfl gU rfl rfl) ?_
            refine al_sub (s := { t := [(0, _, _), (4, _, _), (7, _, _), (80, _, _), (81, _, _)], bx := [((.l 4), _), ((.l 7), _)], ow := [] }) (sub_mk (⟨sx rfl, ⟨sx rfl, ⟨sx rfl, ⟨sx rfl, ⟨sx rfl, trivial⟩⟩⟩⟩⟩) (⟨sx rfl, ⟨sx rfl, trivial⟩⟩) trivial) ?_
            refine al_pure rfl rfl rfl (pure_loadBox rfl (fun hh => hh) rfl rfl rfl rfl) ?_
            refine al_pure rfl rfl rfl (pure_cmp rfl rfl (fun hh => hh) gU rfl) ?_
            refine al_pure rfl rfl rfl (pure_and rfl rfl gU (fun _ hi => gP rfl hi)) ?_
            refine al_pure rfl rfl rfl (pure_assign rfl gU) ?_
            refine al_nil ?_
            refine awp_seq ?_
            refine awp_block ?_
            refine awp_seq (awp_region ?_)
            refine al_pure rfl rfl rfl (pure_loadBoxRow rfl gU rfl rfl rfl rfl rfl) ?_
            refine al_pure rfl rfl rfl (pure_loadBoxRow rfl gU rfl rfl rfl rfl rfl) ?_
            refine al_pure rfl rfl rfl (pure_eqStruct (ks := [1, 2, 1, 1, 1]) (.inr ⟨rfl, rfl⟩) rfl rfl gU gU Tryd.underlying53 (by kernel_rfl) (by kernel_rfl) (by kernel_rfl) rfl) ?_
            refine al_pure rfl rfl rfl (pure_assign rfl gU) ?_
            refine al_nil ?_
            refine awp_sub (s := { t := [(0, _, _), (4, _, _), (8, _, _), (111, _, _)], bx := [((.l 4), _)], ow := [] }) (sub_mk (⟨sx rfl, ⟨sx rfl, ⟨sx rfl, ⟨sx rfl, trivial⟩⟩⟩⟩) (⟨sx rfl, trivial⟩) trivial) ?_
            refine awp_cond rfl (fun hc15 => ?_) (fun hc15 => ?_)
            · try simp only [nn, Fm.rows_len, Bool.and_true] at hc15
              refine awp_seq (awp_region ?_)
              refine al_pure rfl rfl rfl (pure_assign rfl gU) ?_
              refine al_nil ?_
              refine awp_ret ?_
              repeat (first | refine tR ?_ | refine bR ?_)
              refine ret_ok rfl ?_ trivial
              exact xi_eq (by simp [fieldE, shapeB, rangeB, *] <;> grind)
            · try simp only [nn, Fm.rows_len, Bool.and_true] at hc15
              refine awp_seq (awp_region ?_)
              refine al_pure rfl rfl rfl (pure_move rfl gU) ?_
              refine al_pure rfl rfl rfl (pure_not rfl gU) ?_
              refine al_pure rfl rfl rfl (pure_assign rfl gU) ?_
              refine al_nil ?_
              refine awp_cond rfl (fun hc16 => ?_) (fun hc16 => ?_)
              · try simp only [nn, Fm.rows_len, Bool.and_true] at hc16
                refine awp_seq (awp_region ?_)
                refine al_pure rfl rfl rfl (pure_assign rfl gU) ?_
                refine al_nil ?_
                refine awp_ret ?_
                repeat (first | refine tR ?_ | refine bR ?_)
                refine ret_ok rfl ?_ trivial
                exact xi_eq (by simp [fieldE, shapeB, rangeB, *] <;> grind)
              · try simp only [nn, Fm.rows_len, Bool.and_true] at hc16
                refine awp_seq (awp_region ?_)
                refine al_pure rfl rfl rfl (pure_fieldPtr rfl gU rfl rfl) ?_
                refine al_pure rfl rfl rfl (pure_loadBox rfl gU rfl rfl rfl rfl) ?_
                refine al_pure rfl rfl rfl (pure_cmp rfl rfl gU gU rfl) ?_
                refine al_pure rfl rfl rfl (pure_assign rfl gU) ?_
                refine al_nil ?_
                refine awp_sub (s := { t := [(0, _, _), (4, _, _), (118, _, _)], bx := [((.l 4), _)], ow := [] }) (sub_mk (⟨sx rfl, ⟨sx rfl, ⟨sx rfl, trivial⟩⟩⟩) (⟨sx rfl, trivial⟩) trivial) ?_
                refine awp_cond rfl (fun hc17 => ?_) (fun hc17 => ?_)
                · try simp only [nn, Fm.rows_len, Bool.and_true] at hc17
                  refine awp_seq (awp_region ?_)
                  refine al_pure rfl rfl rfl (pure_assign rfl gU) ?_
                  refine al_nil ?_
                  refine awp_ret ?_
                  repeat (first | refine tR ?_ | refine bR ?_)
                  refine ret_ok rfl ?_ trivial
                  exact xi_eq (by simp [fieldE, shapeB, rangeB, *] <;> grind)
                · try simp only [nn, Fm.rows_len, Bool.and_true] at hc17
                  refine awp_seq (awp_region ?_)
                  refine al_pure rfl rfl rfl (pure_fieldPtr rfl gU rfl rfl) ?_
                  refine al_pure rfl rfl rfl (pure_loadBox rfl gU rfl rfl rfl rfl) ?_
                  refine al_pure rfl rfl rfl (pure_cmp rfl rfl gU gU rfl) ?_
                  refine al_pure rfl rfl rfl (pure_move rfl gU) ?_
                  refine al_pure rfl rfl rfl (pure_fieldPtr rfl gU rfl rfl) ?_
                  refine al_pure rfl rfl rfl (pure_loadBox rfl (fun hh => hh) rfl rfl rfl rfl) ?_
                  refine al_pure rfl rfl rfl (pure_move rfl gU) ?_
                  refine al_pure rfl rfl rfl (pure_lenSl rfl (fun hh => hh) rfl rfl) ?_
                  refine al_pure rfl rfl rfl (pure_cmp rfl rfl (fun hh => hh) (fun hh => hh) rfl) ?_
                  refine al_pure rfl rfl rfl (pure_or rfl rfl gU (fun _ hi => gP rfl hi)) ?_
                  refine al_pure rfl rfl rfl (pure_assign rfl gU) ?_
                  refine al_nil ?_
                  refine awp_sub (s := { t := [(0, _, _), (4, _, _), (122, _, _)], bx := [((.l 4), _)], ow := [] }) (sub_mk (⟨sx rfl, ⟨sx rfl, ⟨sx rfl, trivial⟩⟩⟩) (⟨sx rfl, trivial⟩) trivial) ?_
                  refine awp_cond rfl (fun hc18 => ?_) (fun hc18 => ?_)
                  · try simp only [nn, Fm.rows_len, Bool.and_true] at hc18
                    refine awp_seq (awp_region ?_)
                    refine al_pure rfl rfl rfl (pure_assign rfl gU) ?_
                    refine al_nil ?_
                    refine awp_ret ?_
                    repeat (first | refine tR ?_ | refine bR ?_)
                    refine ret_ok rfl ?_ trivial
                    exact xi_eq (by simp [fieldE, shapeB, rangeB, *] <;> grind)
                  · try simp only [nn, Fm.rows_len, Bool.and_true] at hc18
                    refine awp_skip ?_
                    refine awp_seq ?_
                    refine awp_seq (awp_region ?_)
                    refine al_pure rfl rfl rfl (pure_move rfl gU) ?_
                    refine al_pure rfl rfl rfl (pure_fieldPtr rfl gU rfl rfl) ?_
                    refine al_pure rfl rfl rfl (pure_loadBox rfl gU rfl rfl rfl rfl) ?_
                    refine al_pure rfl rfl rfl (pure_indexAddr (j := f.n.toNat) rfl rfl gU gU rfl rfl (by omega) (fun hh => Fm.rows_at (by omega))) ?_
                    refine al_pure rfl rfl rfl (pure_fieldRo rfl gU rfl rfl) ?_
                    refine al_pure rfl rfl rfl (pure_loadRo rfl gU rfl rfl rfl) ?_
                    refine al_lenSl rfl rfl rfl rfl rfl gU rfl rfl ?_ (fun hh => by simp at hh); intro hlen
                    refine al_pure rfl rfl rfl (pure_move rfl gU) ?_
                    refine al_nil ?_
                    refine awp_sub (s := { t := [(138, _, _), (139, _, _), (140, _, _)], bx := [], ow := [] }) (sub_mk (⟨sx rfl, ⟨sx rfl, ⟨sx rfl, trivial⟩⟩⟩) trivial trivial) ?_
                    refine awp_block ?_
                    exfalso
                    grind
          · try simp only [nn, Fm.rows_len, Bool.and_true] at hc14
            refine awp_seq (awp_region ?_)
            refine al_pure rfl rfl rfl (pure_cmp rfl rfl gU gU rfl) ?_
            refine al_pure rfl rfl rfl (pure_assign rfl gU) ?_
            refine al_nil ?_
            refine awp_cond rfl (fun hc19 => ?_) (fun hc19 => ?_)
            · try simp only [nn, Fm.rows_len, Bool.and_true] at hc19
              refine awp_seq ?_
              refine awp_drawn' (by kernel_rfl) ?_
              refine dr_pure rfl rfl rfl rfl (pure_fieldPtr rfl gU rfl rfl) ?_
              refine dr_load rfl rfl rfl rfl rfl rfl rfl gU rfl rfl rfl rfl ?_
              refine dr_pure rfl rfl rfl rfl (pure_fieldPtr rfl gU rfl rfl) ?_
              refine dr_load rfl rfl rfl rfl rfl rfl rfl gU rfl rfl rfl rfl ?_
              refine dr_pure rfl rfl rfl rfl (pure_fieldPtr rfl gU rfl rfl) ?_
              refine dr_store rfl rfl rfl rfl rfl rfl rfl rfl rfl rfl rfl rfl ?_
              refine dr_pure rfl rfl rfl rfl (pure_fieldPtr rfl gU rfl rfl) ?_
              refine dr_store rfl rfl rfl rfl rfl rfl rfl rfl rfl rfl rfl rfl ?_
              refine dr_nil (by kernel_rfl) ?_
              refine awp_sub (s := { t := [(0, _, _), (2, _, _), (4, _, _), (7, _, _)], bx := [((.l 4), _), ((.l 7), _)], ow := [] }) (sub_mk (⟨sx rfl, ⟨sx rfl, ⟨sx rfl, ⟨sx rfl, trivial⟩⟩⟩⟩) (⟨sx rfl, ⟨sx rfl, trivial⟩⟩) trivial) ?_
              refine awp_region ?_
              refine al_pure rfl rfl rfl (pure_move rfl gU) ?_
              refine al_pure rfl rfl rfl (pure_move rfl gU) ?_
              refine al_pure rfl rfl rfl (pure_fieldPtr rfl gU rfl rfl) ?_
              refine al_pure rfl rfl rfl (pure_loadBox rfl (fun hh => hh) rfl rfl rfl rfl) ?_
              refine al_pure rfl rfl rfl (pure_cmp rfl rfl (fun hh => hh) gU rfl) ?_
              refine al_pure rfl rfl rfl (pure_and rfl rfl gU (fun _ hi => gP rfl hi)) ?_
              refine al_pure rfl rfl rfl (pure_move rfl gU) ?_
              refine al_pure rfl rfl rfl (pure_fieldPtr rfl gU rfl rfl) ?_
              refine al_pure rfl rfl rfl (pure_loadBox rfl (fun hh => hh) rfl rfl rfl rfl) ?_
              refine al_pure rfl rfl rfl (pure_fieldPtr rfl gU rfl rfl) ?_
              refine al_pure rfl rfl rfl (pure_loadBox rfl (fun hh => hh) rfl rfl rfl rfl) ?_
              refine al_pure rfl rfl rfl (pure_cmp rfl rfl (fun hh => hh) (fun hh => hh) rfl) ?_
              refine al_sub (s := { t := [(0, _, _), (4, _, _), (7, _, _), (99, _, _), (104, _, _)], bx := [((.l 4), _), ((.l 7), _)], ow := [] }) (sub_mk (⟨sx rfl, ⟨sx rfl, ⟨sx rfl, ⟨sx rfl, ⟨sx rfl, trivial⟩⟩⟩⟩⟩) (⟨sx rfl, ⟨sx rfl, trivial⟩⟩) trivial) ?_
              refine al_pure rfl rfl rfl (pure_and rfl rfl gU (fun _ hi => gP rfl hi)) ?_
              refine al_pure rfl rfl rfl (pure_move rfl gU) ?_
              refine al_pure rfl rfl rfl (pure_fieldPtr rfl gU rfl rfl) ?_
              refine al_pure rfl rfl rfl (pure_loadBox rfl (fun hh => hh) rfl rfl rfl rfl) ?_
              refine al_pure rfl rfl rfl (pure_cmp rfl rfl (fun hh => hh) gU rfl) ?_
              refine al_pure rfl rfl rfl (pure_and rfl rfl gU (fun _ hi => gP rfl hi)) ?_
              refine al_pure rfl rfl rfl (pure_assign rfl gU) ?_
              refine al_nil ?_
              refine awp_sub (s := { t := [(0, _, _), (4, _, _), (7, _, _), (8, _, _)], bx := [((.l 4), _), ((.l 7), _)], ow := [] }) (sub_mk (⟨sx rfl, ⟨sx rfl, ⟨sx rfl, ⟨sx rfl, trivial⟩⟩⟩⟩) (⟨sx rfl, ⟨sx rfl, trivial⟩⟩) trivial) ?_
              refine awp_seq ?_
              refine awp_block ?_
              refine awp_seq (awp_region ?_)
              refine al_pure rfl rfl rfl (pure_loadBoxRow rfl gU rfl rfl rfl rfl rfl) ?_
              refine al_pure rfl rfl rfl (pure_loadBoxRow rfl gU rfl rfl rfl rfl rfl) ?_
              refine al_pure rfl rfl rfl (pure_eqStruct (ks := [1, 2, 1, 1, 1]) (.inr ⟨rfl, rfl⟩) rfl rfl gU gU Tryd.underlying53 (by kernel_rfl) (by kernel_rfl) (by kernel_rfl) rfl) ?_
              refine al_pure rfl rfl rfl (pure_assign rfl gU) ?_
              refine al_nil ?_
              refine awp_cond rfl (fun hc20 => ?_) (fun hc20 => ?_)
              · try simp only [nn, Fm.rows_len, Bool.and_true] at hc20
                refine awp_seq (awp_region ?_)
                refine al_pure rfl rfl rfl (pure_assign rfl gU) ?_
                refine al_nil ?_
                refine awp_ret ?_
                repeat (first | refine tR ?_ | refine bR ?_)
                refine ret_ok rfl ?_ trivial
                exact xi_eq (by simp [fieldE, shapeB, rangeB, *] <;> grind)
              · try simp only [nn, Fm.rows_len, Bool.and_true] at hc20
                refine awp_seq (awp_region ?_)
                refine al_pure rfl rfl rfl (pure_move rfl gU) ?_
                refine al_pure rfl rfl rfl (pure_not rfl gU) ?_
                refine al_pure rfl rfl rfl (pure_assign rfl gU) ?_
                refine al_nil ?_
                refine awp_sub (s := { t := [(0, _, _), (4, _, _), (115, _, _)], bx := [((.l 4), _)], ow := [] }) (sub_mk (⟨sx rfl, ⟨sx rfl, ⟨sx rfl, trivial⟩⟩⟩) (⟨sx rfl, trivial⟩) trivial) ?_
                refine awp_cond rfl (fun hc21 => ?_) (fun hc21 => ?_)
                · try simp only [nn, Fm.rows_len, Bool.and_true] at hc21
                  refine awp_seq (awp_region ?_)
                  refine al_pure rfl rfl rfl (pure_assign rfl gU) ?_
                  refine al_nil ?_
                  refine awp_ret ?_
                  repeat (first | refine tR ?_ | refine bR ?_)
                  refine ret_ok rfl ?_ trivial
                  exact xi_eq (by simp [fieldE, shapeB, rangeB, *] <;> grind)
                · try simp only [nn, Fm.rows_len, Bool.and_true] at hc21
                  refine awp_seq (awp_region ?_)
                  refine al_pure rfl rfl rfl (pure_fieldPtr rfl gU rfl rfl) ?_
                  refine al_pure rfl rfl rfl (pure_loadBox rfl gU rfl rfl rfl rfl) ?_
                  refine al_pure rfl rfl rfl (pure_cmp rfl rfl gU gU rfl) ?_
                  refine al_pure rfl rfl rfl (pure_assign rfl gU) ?_
                  refine al_nil ?_
                  refine awp_cond rfl (fun hc22 => ?_) (fun hc22 => ?_)
                  · try simp only [nn, Fm.rows_len, Bool.and_true] at hc22
                    refine awp_seq (awp_region ?_)
                    refine al_pure rfl rfl rfl (pure_assign rfl gU) ?_
                    refine al_nil ?_
                    refine awp_ret ?_
                    repeat (first | refine tR ?_ | refine bR ?_)
                    refine ret_ok rfl ?_ trivial
                    exact xi_eq (by simp [fieldE, shapeB, rangeB, *] <;> grind)
                  · try simp only [nn, Fm.rows_len, Bool.and_true] at hc22
                    refine awp_seq (awp_region ?_)
                    refine al_pure rfl rfl rfl (pure_fieldPtr rfl gU rfl rfl) ?_
                    refine al_pure rfl rfl rfl (pure_loadBox rfl gU rfl rfl rfl rfl) ?_
                    refine al_pure rfl rfl rfl (pure_cmp rfl rfl gU gU rfl) ?_
                    refine al_pure rfl rfl rfl (pure_move rfl gU) ?_
                    refine al_pure rfl rfl rfl (pure_fieldPtr rfl gU rfl rfl) ?_
                    refine al_pure rfl rfl rfl (pure_loadBox rfl (fun hh => hh) rfl rfl rfl rfl) ?_
                    refine al_pure rfl rfl rfl (pure_move rfl gU) ?_
                    refine al_pure rfl rfl rfl (pure_lenSl rfl (fun hh => hh) rfl rfl) ?_
                    refine al_sub (s := { t := [(0, _, _), (4, _, _), (126, _, _), (128, _, _), (130, _, _)], bx := [((.l 4), _)], ow := [] }) (sub_mk (⟨sx rfl, ⟨sx rfl, ⟨sx rfl, ⟨sx rfl, ⟨sx rfl, trivial⟩⟩⟩⟩⟩) (⟨sx rfl, trivial⟩) trivial) ?_
                    refine al_pure rfl rfl rfl (pure_cmp rfl rfl (fun hh => hh) (fun hh => hh) rfl) ?_
                    refine al_pure rfl rfl rfl (pure_or rfl rfl gU (fun _ hi => gP rfl hi)) ?_
                    refine al_pure rfl rfl rfl (pure_assign rfl gU) ?_
                    refine al_nil ?_
                    refine awp_cond rfl (fun hc23 => ?_) (fun hc23 => ?_)
                    · try simp only [nn, Fm.rows_len, Bool.and_true] at hc23
                      refine awp_seq (awp_region ?_)
                      refine al_pure rfl rfl rfl (pure_assign rfl gU) ?_
                      refine al_nil ?_
                      refine awp_ret ?_
                      repeat (first | refine tR ?_ | refine bR ?_)
                      refine ret_ok rfl ?_ trivial
                      exact xi_eq (by simp [fieldE, shapeB, rangeB, *] <;> grind)
                    · try simp only [nn, Fm.rows_len, Bool.and_true] at hc23
                      refine awp_skip ?_
                      refine awp_seq ?_
                      refine awp_seq (awp_region ?_)
                      refine al_pure rfl rfl rfl (pure_move rfl gU) ?_
                      refine al_pure rfl rfl rfl (pure_fieldPtr rfl gU rfl rfl) ?_
                      refine al_pure rfl rfl rfl (pure_loadBox rfl gU rfl rfl rfl rfl) ?_
                      refine al_pure rfl rfl rfl (pure_indexAddr (j := f.n.toNat) rfl rfl gU gU rfl rfl (by omega) (fun hh => Fm.rows_at (by omega))) ?_
                      refine al_pure rfl rfl rfl (pure_fieldRo rfl gU rfl rfl) ?_
                      refine al_pure rfl rfl rfl (pure_loadRo rfl gU rfl rfl rfl) ?_
                      refine al_lenSl rfl rfl rfl rfl rfl gU rfl rfl ?_ (fun hh => by simp at hh); intro hlen
                      refine al_pure rfl rfl rfl (pure_move rfl gU) ?_
                      refine al_nil ?_
                      refine awp_sub (s := { t := [(138, _, _), (139, _, _), (140, _, _)], bx := [], ow := [] }) (sub_mk (⟨sx rfl, ⟨sx rfl, ⟨sx rfl, trivial⟩⟩⟩) trivial trivial) ?_
                      refine awp_block ?_
                      exfalso
                      grind
            · try simp only [nn, Fm.rows_len, Bool.and_true] at hc19
              refine awp_seq (awp_region ?_)
              refine al_pure rfl rfl rfl (pure_assign rfl gU) ?_
              refine al_nil ?_
              refine awp_ret ?_
              repeat (first | refine tR ?_ | refine bR ?_)
              refine ret_ok rfl ?_ trivial
              exact xi_eq (by simp [fieldE, shapeB, rangeB, *] <;> grind)
end Go.Proofs.YthfoclblmdnckaaDoor
/- Contracts: the errors of tables, and the bounds of formats, on both sides. -/
set_option linter.unusedVariables false
set_option linter.unusedSimpArgs false
namespace Go.Proofs.YthfoclblmdnckaaDoor
open Go Go.Abs
theorem last_eq {α : Type} {l : List α} {k n : Nat} (hn : n = l.length) (h : k < l.length) : ((k : Int) == (n : Int) - 1) = (l.drop (k + 1)).isEmpty := by
  rw [Bool.eq_iff_iff, List.isEmpty_iff, List.drop_eq_nil_iff, beq_iff_eq]; omega
theorem take_rows (t : List Fm) (k : Nat) : ((Fm.rows t).take k).drop 0 = Fm.rows (t.take k) := by rw [List.drop_zero, Fm.rows_take]
theorem rValid_spec (t : List Fm) : Ctr sys 27 [xtab t] [] (xi (validE t)) none [] := by
  have hrl := Fm.rows_len t
  refine spec_intro Tryd.func27 rfl rfl rfl rfl rfl rfl ?_
  refine awp_seq (awp_region ?_)
  refine al_pure rfl rfl rfl (pure_assign rfl gU) ?_
  refine al_nil ?_
  refine awp_seq ?_
  refine awp_seq (awp_region ?_)
  refine al_pure rfl rfl rfl (pure_move rfl gU) ?_
  refine al_lenSl rfl rfl rfl rfl rfl gU rfl rfl ?_ (fun hh => by simp at hh); intro hlen
  refine al_pure rfl rfl rfl (pure_cmp rfl rfl gU gU rfl) ?_
  refine al_nil ?_
  refine awp_cond rfl (fun hc => ?_) (fun hc => ?_)
  · try simp only [nn, Fm.rows_len, Fd.rows_len] at hc
    refine awp_seq (awp_region ?_)
    refine al_pure rfl rfl rfl (pure_assign rfl gU) ?_
    refine al_nil ?_
    refine awp_ret ?_
    repeat (first | refine tR ?_ | refine bR ?_)
    refine ret_ok rfl ?_ trivial
    exact xi_eq (by rw [validE, if_pos (by omega)])
  · try simp only [nn, Fm.rows_len, Fd.rows_len] at hc
    rw [validE, if_neg (by omega)]
    refine awp_skip ?_
    refine awp_seq ?_
    refine awp_seq (awp_region ?_)
    refine al_pure rfl rfl rfl (pure_assign rfl gU) ?_
    refine al_nil ?_
    refine awp_sub (s := { t := [(0, _, _), (3, _, _)], bx := [], ow := [] }) (sub_mk (⟨sx rfl, ⟨sx rfl, trivial⟩⟩) trivial trivial) ?_
    refine awp_block ?_
    refine awp_for (ι := Nat) { t := [(0, _, _)], bx := [], ow := [] } (fun k => [(3, true, xi (k : Int))]) (fun k => []) (fun k => k ≤ t.length ∧ tableE t (t.drop k) k = tableE t t 0) (fun k => t.length - k) (0) (by simp) (sub_mk (⟨sx rfl, ⟨sx rfl, trivial⟩⟩) trivial trivial) ?_
    intro k hok
    dsimp only [List.cons_append, List.nil_append]
    obtain ⟨hk, hi⟩ := hok
    refine awp_seq ?_
    refine awp_seq (awp_region ?_)
    refine al_pure rfl rfl rfl (pure_move rfl gU) ?_
    refine al_pure rfl rfl rfl (pure_move rfl gU) ?_
    refine al_lenSl rfl rfl rfl rfl rfl gU rfl rfl ?_ (fun hh => by simp at hh); intro hlen
    refine al_pure rfl rfl rfl (pure_cmp rfl rfl gU gU rfl) ?_
    refine al_nil ?_
    refine awp_cond rfl (fun hc2 => ?_) (fun hc2 => ?_)
    · try simp only [nn, Fm.rows_len, Fd.rows_len] at hc2
      rw [drop_getD (by omega), tableE, fmE] at hi
      have hrf := Fd.rows_len (t.getD k default).fields
      refine awp_skip ?_
      refine awp_seq ?_
      refine awp_block ?_
      refine awp_seq ?_
      refine awp_seq (awp_region ?_)
      refine al_pure rfl rfl rfl (pure_move rfl gU) ?_
      refine al_pure rfl rfl rfl (pure_move rfl gU) ?_
      refine al_pure rfl rfl rfl (pure_indexAddr rfl rfl gU gU rfl rfl rfl (fun hh => Fm.rows_at (by omega))) ?_
      refine al_pure rfl rfl rfl (pure_fieldRo rfl gU rfl rfl) ?_
      refine al_pure rfl rfl rfl (pure_loadRo rfl gU rfl rfl rfl) ?_
      refine al_call rfl rfl rfl rfl rfl rfl gU gU (rname_spec _) rfl ?_
      refine al_pure rfl rfl rfl (pure_not rfl gU) ?_
      refine al_nil ?_
      refine awp_sub (s := { t := [(0, _, _), (3, _, _), (22, _, _)], bx := [], ow := [] }) (sub_mk (⟨sx rfl, ⟨sx rfl, ⟨sx rfl, trivial⟩⟩⟩) trivial trivial) ?_
      refine awp_cond rfl (fun hc3 => ?_) (fun hc3 => ?_)
      · try simp only [nn, Fm.rows_len, Fd.rows_len] at hc3
        refine awp_seq (awp_region ?_)
        refine al_pure rfl rfl rfl (pure_assign rfl gU) ?_
        refine al_nil ?_
        refine awp_ret ?_
        repeat (first | refine tR ?_ | refine bR ?_)
        refine ret_ok rfl ?_ trivial
        exact xi_eq (by grind)
      · try simp only [nn, Fm.rows_len, Fd.rows_len] at hc3
        refine awp_skip ?_
        refine awp_seq ?_
        refine awp_seq ?_
        refine awp_drawn' (by kernel_rfl) ?_
        refine dr_pure rfl rfl rfl rfl (pure_move rfl gU) ?_
        refine dr_pure rfl rfl rfl rfl (pure_move rfl gU) ?_
        refine dr_pure rfl rfl rfl rfl (pure_slice rfl gU rfl rfl (fun _ => rfl) (fun _ => ⟨_, _, _, rfl, gU, rfl⟩) (fun hh => by omega) (fun hh => by omega)) ?_
        refine dr_pure rfl rfl rfl rfl (pure_move rfl gU) ?_
        refine dr_pure rfl rfl rfl rfl (pure_move rfl gU) ?_
        refine dr_pure rfl rfl rfl rfl (pure_indexAddr rfl rfl gU gU rfl rfl rfl (fun hh => Fm.rows_at (by omega))) ?_
        refine dr_pure rfl rfl rfl rfl (pure_fieldRo rfl gU rfl rfl) ?_
        refine dr_pure rfl rfl rfl rfl (pure_loadRo rfl gU rfl rfl rfl) ?_
        refine dr_callN rfl rfl rfl rfl rfl rfl rfl gU gU (find_spec (t.take k) _ _ (take_rows t k)) rfl ?_
        refine dr_pure rfl rfl rfl rfl (pure_cmp rfl rfl gU gU rfl) ?_
        refine dr_nil (by kernel_rfl) ?_
        refine awp_sub (s := { t := [(0, _, _), (3, _, _), (32, _, _)], bx := [], ow := [] }) (sub_mk (⟨sx rfl, ⟨sx rfl, ⟨sx rfl, trivial⟩⟩⟩) trivial trivial) ?_
        refine awp_cond rfl (fun hc4 => ?_) (fun hc4 => ?_)
        · try simp only [nn, Fm.rows_len, Fd.rows_len] at hc4
          refine awp_seq (awp_region ?_)
          refine al_pure rfl rfl rfl (pure_assign rfl gU) ?_
          refine al_nil ?_
          refine awp_ret ?_
          repeat (first | refine tR ?_ | refine bR ?_)
          refine ret_ok rfl ?_ trivial
          exact xi_eq (by grind)
        · try simp only [nn, Fm.rows_len, Fd.rows_len] at hc4
          refine awp_skip ?_
          refine awp_seq (awp_region ?_)
          refine al_pure rfl rfl rfl (pure_move rfl gU) ?_
          refine al_pure rfl rfl rfl (pure_move rfl gU) ?_
          refine al_pure rfl rfl rfl (pure_indexAddr rfl rfl gU gU rfl rfl rfl (fun hh => Fm.rows_at (by omega))) ?_
          refine al_pure rfl rfl rfl (pure_fieldRo rfl gU rfl rfl) ?_
          refine al_pure rfl rfl rfl (pure_loadRo rfl gU rfl rfl rfl) ?_
          refine al_lenSl rfl rfl rfl rfl rfl gU rfl rfl ?_ (fun hh => by simp at hh); intro hlen
          refine al_pure rfl rfl rfl (pure_assign rfl gU) ?_
          refine al_nil ?_
          refine awp_sub (s := { t := [(0, _, _), (3, _, _), (4, _, _)], bx := [], ow := [] }) (sub_mk (⟨sx rfl, ⟨sx rfl, ⟨sx rfl, trivial⟩⟩⟩) trivial trivial) ?_
          refine awp_seq ?_
          refine awp_seq (awp_region ?_)
          refine al_pure rfl rfl rfl (pure_move rfl gU) ?_
          refine al_pure rfl rfl rfl (pure_cmp rfl rfl gU gU rfl) ?_
          refine al_nil ?_
          refine awp_cond rfl (fun hc5 => ?_) (fun hc5 => ?_)
          · try simp only [nn, Fm.rows_len, Fd.rows_len] at hc5
            refine awp_seq (awp_region ?_)
            refine al_pure rfl rfl rfl (pure_assign rfl gU) ?_
            refine al_nil ?_
            refine awp_ret ?_
            repeat (first | refine tR ?_ | refine bR ?_)
            refine ret_ok rfl ?_ trivial
            exact xi_eq (by grind)
          · try simp only [nn, Fm.rows_len, Fd.rows_len] at hc5
            refine awp_skip ?_
            refine awp_seq ?_
            refine awp_seq (awp_region ?_)
            refine al_pure rfl rfl rfl (pure_move rfl gU) ?_
            refine al_pure rfl rfl rfl (pure_cmp rfl rfl gU gU rfl) ?_
            refine al_nil ?_
            refine awp_cond rfl (fun hc6 => ?_) (fun hc6 => ?_)
            · try simp only [nn, Fm.rows_len, Fd.rows_len] at hc6
              refine awp_seq (awp_region ?_)
              refine al_pure rfl rfl rfl (pure_assign rfl gU) ?_
              refine al_nil ?_
              refine awp_ret ?_
              repeat (first | refine tR ?_ | refine bR ?_)
              refine ret_ok rfl ?_ trivial
              exact xi_eq (by grind)
            · try simp only [nn, Fm.rows_len, Fd.rows_len] at hc6
              refine awp_skip ?_
              refine awp_seq (awp_region ?_)
              refine al_pure rfl rfl rfl (pure_assign rfl gU) ?_
              refine al_nil ?_
              refine awp_sub (s := { t := [(0, _, _), (3, _, _), (4, _, _), (5, _, _)], bx := [], ow := [] }) (sub_mk (⟨sx rfl, ⟨sx rfl, ⟨sx rfl, ⟨sx rfl, trivial⟩⟩⟩⟩) trivial trivial) ?_
              refine awp_block ?_
              refine awp_for (ι := Nat) { t := [(0, _, _), (3, _, _), (4, _, _)], bx := [], ow := [] } (fun j => [(5, true, xi (j : Int))]) (fun j => []) (fun j => j ≤ (t.getD k default).fields.length ∧ fieldsE (t.take k) ((t.getD k default).fields.drop j) = fieldsE (t.take k) (t.getD k default).fields) (fun j => (t.getD k default).fields.length - j) (0) (by simp) (sub_mk (⟨sx rfl, ⟨sx rfl, ⟨sx rfl, ⟨sx rfl, trivial⟩⟩⟩⟩) trivial trivial) ?_
              intro j hok2
              dsimp only [List.cons_append, List.nil_append]
              obtain ⟨hj, hi2⟩ := hok2
              refine awp_seq ?_
              refine awp_seq (awp_region ?_)
              refine al_pure rfl rfl rfl (pure_move rfl gU) ?_
              refine al_pure rfl rfl rfl (pure_move rfl gU) ?_
              refine al_pure rfl rfl rfl (pure_cmp rfl rfl gU gU rfl) ?_
              refine al_nil ?_
              refine awp_cond rfl (fun hc7 => ?_) (fun hc7 => ?_)
              · try simp only [nn, Fm.rows_len, Fd.rows_len] at hc7
                rw [drop_getD (by omega), fieldsE] at hi2
                have hlast := last_eq (k := j) hrf (by omega)
                refine awp_skip ?_
                refine awp_seq ?_
                refine awp_block ?_
                refine awp_seq ?_
                refine awp_drawn' (by kernel_rfl) ?_
                refine dr_pure rfl rfl rfl rfl (pure_move rfl gU) ?_
                refine dr_pure rfl rfl rfl rfl (pure_move rfl gU) ?_
                refine dr_pure rfl rfl rfl rfl (pure_slice rfl gU rfl rfl (fun _ => rfl) (fun _ => ⟨_, _, _, rfl, gU, rfl⟩) (fun hh => by omega) (fun hh => by omega)) ?_
                refine dr_pure rfl rfl rfl rfl (pure_move rfl gU) ?_
                refine dr_pure rfl rfl rfl rfl (pure_move rfl gU) ?_
                refine dr_pure rfl rfl rfl rfl (pure_indexAddr rfl rfl gU gU rfl rfl rfl (fun hh => Fm.rows_at (by omega))) ?_
                refine dr_pure rfl rfl rfl rfl (pure_fieldRo rfl gU rfl rfl) ?_
                refine dr_pure rfl rfl rfl rfl (pure_loadRo rfl gU rfl rfl rfl) ?_
                refine dr_pure rfl rfl rfl rfl (pure_move rfl gU) ?_
                refine dr_pure rfl rfl rfl rfl (pure_indexAddr rfl rfl gU gU rfl rfl rfl (fun hh => Fd.rows_at (by omega))) ?_
                refine dr_pure rfl rfl rfl rfl (pure_loadRoRow rfl gU rfl rfl rfl rfl) ?_
                refine dr_pure rfl rfl rfl rfl (pure_move rfl gU) ?_
                refine dr_pure rfl rfl rfl rfl (pure_move rfl gU) ?_
                refine dr_pure rfl rfl rfl rfl (pure_arith rfl rfl gU gU rfl (IntWalk.i64_in _ (by omega))) ?_
                refine dr_pure rfl rfl rfl rfl (pure_cmp rfl rfl gU gU rfl) ?_
                refine dr_callN rfl rfl rfl rfl rfl rfl rfl gU gU (field_spec (t.take k) _ _ _ (take_rows t k)) rfl ?_
                refine dr_pure rfl rfl rfl rfl (pure_assign rfl gU) ?_
                refine dr_nil (by kernel_rfl) ?_
                refine awp_sub (s := { t := [(0, _, _), (3, _, _), (4, _, _), (5, _, _), (6, _, _)], bx := [], ow := [] }) (sub_mk (⟨sx rfl, ⟨sx rfl, ⟨sx rfl, ⟨sx rfl, ⟨sx rfl, trivial⟩⟩⟩⟩⟩) trivial trivial) ?_
                refine awp_seq (awp_region ?_)
                refine al_pure rfl rfl rfl (pure_move rfl gU) ?_
                refine al_pure rfl rfl rfl (pure_cmp rfl rfl gU gU rfl) ?_
                refine al_nil ?_
                refine awp_cond rfl (fun hc1 => ?_) (fun hc1 => ?_)
                · try simp only [nn, Fm.rows_len, Fd.rows_len] at hc1
                  refine awp_seq (awp_region ?_)
                  refine al_pure rfl rfl rfl (pure_move rfl gU) ?_
                  refine al_pure rfl rfl rfl (pure_assign rfl gU) ?_
                  refine al_nil ?_
                  refine awp_ret ?_
                  repeat (first | refine tR ?_ | refine bR ?_)
                  refine ret_ok rfl ?_ trivial
                  exact xi_eq (by grind)
                · try simp only [nn, Fm.rows_len, Fd.rows_len] at hc1
                  refine awp_skip ?_
                  refine awp_region ?_
                  refine al_pure rfl rfl rfl (pure_move rfl gU) ?_
                  refine al_pure rfl rfl rfl (pure_arith rfl rfl gU gU rfl (IntWalk.i64_in _ (by omega))) ?_
                  refine al_pure rfl rfl rfl (pure_assign rfl gU) ?_
                  refine al_nil ?_
                  refine ⟨j + 1, ?_, ?_, sub_mk (⟨⟨_, rfl, ?_⟩, ⟨sx rfl, ⟨sx rfl, ⟨sx rfl, trivial⟩⟩⟩⟩) trivial trivial⟩
                  all_goals (first | rfl | omega | grind)
              · try simp only [nn, Fm.rows_len, Fd.rows_len] at hc7
                rw [List.drop_of_length_le (by omega), fieldsE] at hi2
                refine awp_exit ?_
                repeat (first | refine thenS_exit ?_ | refine blockS_hit ?_ | refine blockS_miss rfl ?_)
                refine awp_region ?_
                refine al_pure rfl rfl rfl (pure_move rfl gU) ?_
                refine al_pure rfl rfl rfl (pure_arith rfl rfl gU gU rfl (IntWalk.i64_in _ (by omega))) ?_
                refine al_pure rfl rfl rfl (pure_assign rfl gU) ?_
                refine al_nil ?_
                refine ⟨k + 1, ?_, ?_, sub_mk (⟨⟨_, rfl, ?_⟩, ⟨sx rfl, trivial⟩⟩) trivial trivial⟩
                all_goals (first | rfl | omega | grind)
    · try simp only [nn, Fm.rows_len, Fd.rows_len] at hc2
      rw [List.drop_of_length_le (by omega), tableE] at hi
      refine awp_exit ?_
      repeat (first | refine thenS_exit ?_ | refine blockS_hit ?_ | refine blockS_miss rfl ?_)
      refine awp_seq (awp_region ?_)
      refine al_pure rfl rfl rfl (pure_assign rfl gU) ?_
      refine al_nil ?_
      refine awp_ret ?_
      repeat (first | refine tR ?_ | refine bR ?_)
      refine ret_ok rfl ?_ trivial
      exact xi_eq hi
theorem fValid_spec (t : List Fm) : Ctr sys 13 [xtab t] [] (xi (validE t)) none [] := by
  have hrl := Fm.rows_len t
  refine spec_intro Tryd.func13 rfl rfl rfl rfl rfl rfl ?_
  refine awp_seq (awp_region ?_)
  refine al_pure rfl rfl rfl (pure_assign rfl gU) ?_
  refine al_nil ?_
  refine awp_seq ?_
  refine awp_seq (awp_region ?_)
  refine al_pure rfl rfl rfl (pure_move rfl gU) ?_
  refine al_lenSl rfl rfl rfl rfl rfl gU rfl rfl ?_ (fun hh => by simp at hh); intro hlen
  refine al_pure rfl rfl rfl (pure_cmp rfl rfl gU gU rfl) ?_
  refine al_nil ?_
  refine awp_cond rfl (fun hc => ?_) (fun hc => ?_)
  · try simp only [nn, Fm.rows_len, Fd.rows_len] at hc
    refine awp_seq (awp_region ?_)
    refine al_pure rfl rfl rfl (pure_assign rfl gU) ?_
    refine al_nil ?_
    refine awp_ret ?_
    repeat (first | refine tR ?_ | refine bR ?_)
    refine ret_ok rfl ?_ trivial
    exact xi_eq (by rw [validE, if_pos (by omega)])
  · try simp only [nn, Fm.rows_len, Fd.rows_len] at hc
    rw [validE, if_neg (by omega)]
    refine awp_skip ?_
    refine awp_seq ?_
    refine awp_seq (awp_region ?_)
    refine al_pure rfl rfl rfl (pure_move rfl gU) ?_
    refine al_lenSl rfl rfl rfl rfl rfl gU rfl rfl ?_ (fun hh => by simp at hh); intro hlen
    refine al_pure rfl rfl rfl (pure_move rfl gU) ?_
    refine al_nil ?_
    refine awp_sub (s := { t := [(0, _, _), (11, _, _), (12, _, _), (13, _, _)], bx := [], ow := [] }) (sub_mk (⟨sx rfl, ⟨sx rfl, ⟨sx rfl, ⟨sx rfl, trivial⟩⟩⟩⟩) trivial trivial) ?_
    refine awp_block ?_
    refine awp_for (ι := Nat) { t := [(0, _, _), (11, _, _), (12, _, _)], bx := [], ow := [] } (fun k => [(13, true, xi (k : Int))]) (fun k => []) (fun k => k ≤ t.length ∧ tableE t (t.drop k) k = tableE t t 0) (fun k => t.length - k) (0) (by simp) (sub_mk (⟨sx rfl, ⟨sx rfl, ⟨sx rfl, ⟨sx rfl, trivial⟩⟩⟩⟩) trivial trivial) ?_
    intro k hok
    dsimp only [List.cons_append, List.nil_append]
    obtain ⟨hk, hi⟩ := hok
    refine awp_seq (awp_region ?_)
    refine al_pure rfl rfl rfl (pure_cmp rfl rfl gU gU rfl) ?_
    refine al_nil ?_
    refine awp_seq ?_
    refine awp_cond rfl (fun hc2 => ?_) (fun hc2 => ?_)
    · try simp only [nn, Fm.rows_len, Fd.rows_len] at hc2
      rw [drop_getD (by omega), tableE, fmE] at hi
      have hrf := Fd.rows_len (t.getD k default).fields
      refine awp_skip ?_
      refine awp_seq ?_
      refine awp_block ?_
      refine awp_seq (awp_region ?_)
      refine al_pure rfl rfl rfl (pure_move rfl gU) ?_
      refine al_pure rfl rfl rfl (pure_indexAddr rfl rfl gU gU rfl rfl rfl (fun hh => Fm.rows_at (by omega))) ?_
      refine al_pure rfl rfl rfl (pure_loadRoRow rfl gU rfl rfl rfl rfl) ?_
      refine al_do rfl (does_alloc rfl rfl rfl) ?_
      refine al_pure rfl rfl rfl (pure_assign rfl gU) ?_
      refine al_do rfl (does_store rfl rfl rfl rfl rfl rfl rfl) ?_
      refine al_nil ?_
      refine awp_sub (s := { t := [(0, _, _), (3, _, _), (4, _, _), (11, _, _), (12, _, _), (13, _, _)], bx := [((.l 4), _)], ow := [] }) (sub_mk (⟨sx rfl, ⟨sx rfl, ⟨sx rfl, ⟨sx rfl, ⟨sx rfl, ⟨sx rfl, trivial⟩⟩⟩⟩⟩⟩) (⟨sx rfl, trivial⟩) trivial) ?_
      refine awp_seq ?_
      refine awp_block ?_
      refine awp_seq (awp_region ?_)
      refine al_pure rfl rfl rfl (pure_fieldPtr rfl gU rfl rfl) ?_
      refine al_pure rfl rfl rfl (pure_loadBox rfl gU rfl rfl rfl rfl) ?_
      refine al_call rfl rfl rfl rfl rfl rfl gU gU (fisName_spec _) rfl ?_
      refine al_pure rfl rfl rfl (pure_not rfl gU) ?_
      refine al_pure rfl rfl rfl (pure_assign rfl gU) ?_
      refine al_nil ?_
      refine awp_sub (s := { t := [(0, _, _), (3, _, _), (4, _, _), (11, _, _), (12, _, _), (13, _, _), (18, _, _)], bx := [((.l 4), _)], ow := [] }) (sub_mk (⟨sx rfl, ⟨sx rfl, ⟨sx rfl, ⟨sx rfl, ⟨sx rfl, ⟨sx rfl, ⟨sx rfl, trivial⟩⟩⟩⟩⟩⟩⟩) (⟨sx rfl, trivial⟩) trivial) ?_
      refine awp_cond rfl (fun hc3 => ?_) (fun hc3 => ?_)
      · try simp only [nn, Fm.rows_len, Fd.rows_len] at hc3
        refine awp_seq (awp_region ?_)
        refine al_pure rfl rfl rfl (pure_assign rfl gU) ?_
        refine al_nil ?_
        refine awp_ret ?_
        repeat (first | refine tR ?_ | refine bR ?_)
        refine ret_ok rfl ?_ trivial
        exact xi_eq (by grind)
      · try simp only [nn, Fm.rows_len, Fd.rows_len] at hc3
        refine awp_seq ?_
        refine awp_drawn' (by kernel_rfl) ?_
        refine dr_pure rfl rfl rfl rfl (pure_move rfl gU) ?_
        refine dr_pure rfl rfl rfl rfl (pure_move rfl gU) ?_
        refine dr_pure rfl rfl rfl rfl (pure_slice rfl gU rfl rfl (fun _ => rfl) (fun _ => ⟨_, _, _, rfl, gU, rfl⟩) (fun hh => by omega) (fun hh => by omega)) ?_
        refine dr_pure rfl rfl rfl rfl (pure_fieldPtr rfl gU rfl rfl) ?_
        refine dr_load rfl rfl rfl rfl rfl rfl rfl gU rfl rfl rfl rfl ?_
        refine dr_callN rfl rfl rfl rfl rfl rfl rfl gU gU (index_spec (t.take k) _ _ (take_rows t k)) rfl ?_
        refine dr_pure rfl rfl rfl rfl (pure_cmp rfl rfl gU gU rfl) ?_
        refine dr_pure rfl rfl rfl rfl (pure_assign rfl gU) ?_
        refine dr_nil (by kernel_rfl) ?_
        refine awp_sub (s := { t := [(0, _, _), (3, _, _), (4, _, _), (11, _, _), (12, _, _), (13, _, _), (23, _, _)], bx := [((.l 4), _)], ow := [] }) (sub_mk (⟨sx rfl, ⟨sx rfl, ⟨sx rfl, ⟨sx rfl, ⟨sx rfl, ⟨sx rfl, ⟨sx rfl, trivial⟩⟩⟩⟩⟩⟩⟩) (⟨sx rfl, trivial⟩) trivial) ?_
        refine awp_cond rfl (fun hc4 => ?_) (fun hc4 => ?_)
        · try simp only [nn, Fm.rows_len, Fd.rows_len] at hc4
          refine awp_seq (awp_region ?_)
          refine al_pure rfl rfl rfl (pure_assign rfl gU) ?_
          refine al_nil ?_
          refine awp_ret ?_
          repeat (first | refine tR ?_ | refine bR ?_)
          refine ret_ok rfl ?_ trivial
          exact xi_eq (by grind)
        · try simp only [nn, Fm.rows_len, Fd.rows_len] at hc4
          refine awp_seq (awp_region ?_)
          refine al_pure rfl rfl rfl (pure_fieldPtr rfl gU rfl rfl) ?_
          refine al_pure rfl rfl rfl (pure_loadBox rfl gU rfl rfl rfl rfl) ?_
          refine al_lenSl rfl rfl rfl rfl rfl gU rfl rfl ?_ (fun hh => by simp at hh); intro hlen
          refine al_pure rfl rfl rfl (pure_cmp rfl rfl gU gU rfl) ?_
          refine al_pure rfl rfl rfl (pure_assign rfl gU) ?_
          refine al_nil ?_
          refine awp_sub (s := { t := [(0, _, _), (3, _, _), (4, _, _), (11, _, _), (12, _, _), (13, _, _), (31, _, _)], bx := [((.l 4), _)], ow := [] }) (sub_mk (⟨sx rfl, ⟨sx rfl, ⟨sx rfl, ⟨sx rfl, ⟨sx rfl, ⟨sx rfl, ⟨sx rfl, trivial⟩⟩⟩⟩⟩⟩⟩) (⟨sx rfl, trivial⟩) trivial) ?_
          refine awp_cond rfl (fun hc5 => ?_) (fun hc5 => ?_)
          · try simp only [nn, Fm.rows_len, Fd.rows_len] at hc5
            refine awp_seq (awp_region ?_)
            refine al_pure rfl rfl rfl (pure_assign rfl gU) ?_
            refine al_nil ?_
            refine awp_ret ?_
            repeat (first | refine tR ?_ | refine bR ?_)
            refine ret_ok rfl ?_ trivial
            exact xi_eq (by grind)
          · try simp only [nn, Fm.rows_len, Fd.rows_len] at hc5
            refine awp_seq (awp_region ?_)
            refine al_pure rfl rfl rfl (pure_fieldPtr rfl gU rfl rfl) ?_
            refine al_pure rfl rfl rfl (pure_loadBox rfl gU rfl rfl rfl rfl) ?_
            refine al_lenSl rfl rfl rfl rfl rfl gU rfl rfl ?_ (fun hh => by simp at hh); intro hlen
            refine al_pure rfl rfl rfl (pure_cmp rfl rfl gU gU rfl) ?_
            refine al_pure rfl rfl rfl (pure_assign rfl gU) ?_
            refine al_nil ?_
            refine awp_sub (s := { t := [(0, _, _), (3, _, _), (4, _, _), (11, _, _), (12, _, _), (13, _, _), (36, _, _)], bx := [((.l 4), _)], ow := [] }) (sub_mk (⟨sx rfl, ⟨sx rfl, ⟨sx rfl, ⟨sx rfl, ⟨sx rfl, ⟨sx rfl, ⟨sx rfl, trivial⟩⟩⟩⟩⟩⟩⟩) (⟨sx rfl, trivial⟩) trivial) ?_
            refine awp_cond rfl (fun hc6 => ?_) (fun hc6 => ?_)
            · try simp only [nn, Fm.rows_len, Fd.rows_len] at hc6
              refine awp_seq (awp_region ?_)
              refine al_pure rfl rfl rfl (pure_assign rfl gU) ?_
              refine al_nil ?_
              refine awp_ret ?_
              repeat (first | refine tR ?_ | refine bR ?_)
              refine ret_ok rfl ?_ trivial
              exact xi_eq (by grind)
            · try simp only [nn, Fm.rows_len, Fd.rows_len] at hc6
              refine awp_skip ?_
              refine awp_seq (awp_region ?_)
              refine al_pure rfl rfl rfl (pure_fieldPtr rfl gU rfl rfl) ?_
              refine al_pure rfl rfl rfl (pure_loadBox rfl gU rfl rfl rfl rfl) ?_
              refine al_lenSl rfl rfl rfl rfl rfl gU rfl rfl ?_ (fun hh => by simp at hh); intro hlen
              refine al_pure rfl rfl rfl (pure_move rfl gU) ?_
              refine al_nil ?_
              refine awp_block ?_
              refine awp_for (ι := Nat) { t := [(0, _, _), (3, _, _), (4, _, _), (11, _, _), (12, _, _), (13, _, _), (42, _, _), (43, _, _)], bx := [((.l 4), _)], ow := [] } (fun j => [(44, true, xi (j : Int))]) (fun j => []) (fun j => j ≤ (t.getD k default).fields.length ∧ fieldsE (t.take k) ((t.getD k default).fields.drop j) = fieldsE (t.take k) (t.getD k default).fields) (fun j => (t.getD k default).fields.length - j) (0) (by simp) (sub_mk (⟨sx rfl, ⟨sx rfl, ⟨sx rfl, ⟨sx rfl, ⟨sx rfl, ⟨sx rfl, ⟨sx rfl, ⟨sx rfl, ⟨sx rfl, trivial⟩⟩⟩⟩⟩⟩⟩⟩⟩) (⟨sx rfl, trivial⟩) trivial) ?_
              intro j hok2
              dsimp only [List.cons_append, List.nil_append]
              obtain ⟨hj, hi2⟩ := hok2
              refine awp_seq (awp_region ?_)
              refine al_pure rfl rfl rfl (pure_cmp rfl rfl gU gU rfl) ?_
              refine al_nil ?_
              refine awp_seq ?_
              refine awp_cond rfl (fun hc7 => ?_) (fun hc7 => ?_)
              · try simp only [nn, Fm.rows_len, Fd.rows_len] at hc7
                rw [drop_getD (by omega), fieldsE] at hi2
                have hlast := last_eq (k := j) hrf (by omega)
                refine awp_skip ?_
                refine awp_seq ?_
                refine awp_block ?_
                refine awp_seq (awp_region ?_)
                refine al_pure rfl rfl rfl (pure_move rfl gU) ?_
                refine al_pure rfl rfl rfl (pure_indexAddr rfl rfl gU gU rfl rfl rfl (fun hh => Fd.rows_at (by omega))) ?_
                refine al_pure rfl rfl rfl (pure_loadRoRow rfl gU rfl rfl rfl rfl) ?_
                refine al_do rfl (does_alloc rfl rfl rfl) ?_
                refine al_pure rfl rfl rfl (pure_assign rfl gU) ?_
                refine al_do rfl (does_store rfl rfl rfl rfl rfl rfl rfl) ?_
                refine al_nil ?_
                refine awp_sub (s := { t := [(0, _, _), (3, _, _), (4, _, _), (5, _, _), (6, _, _), (11, _, _), (12, _, _), (13, _, _), (42, _, _), (43, _, _), (44, _, _)], bx := [((.l 4), _), ((.l 6), _)], ow := [] }) (sub_mk (⟨sx rfl, ⟨sx rfl, ⟨sx rfl, ⟨sx rfl, ⟨sx rfl, ⟨sx rfl, ⟨sx rfl, ⟨sx rfl, ⟨sx rfl, ⟨sx rfl, ⟨sx rfl, trivial⟩⟩⟩⟩⟩⟩⟩⟩⟩⟩⟩) (⟨sx rfl, ⟨sx rfl, trivial⟩⟩) trivial) ?_
                refine awp_seq ?_
                refine awp_drawn' (by kernel_rfl) ?_
                refine dr_pure rfl rfl rfl rfl (pure_move rfl gU) ?_
                refine dr_pure rfl rfl rfl rfl (pure_move rfl gU) ?_
                refine dr_pure rfl rfl rfl rfl (pure_slice rfl gU rfl rfl (fun _ => rfl) (fun _ => ⟨_, _, _, rfl, gU, rfl⟩) (fun hh => by omega) (fun hh => by omega)) ?_
                refine dr_loadRow rfl rfl rfl rfl rfl rfl rfl gU rfl rfl rfl rfl rfl ?_
                refine dr_pure rfl rfl rfl rfl (pure_move rfl gU) ?_
                refine dr_pure rfl rfl rfl rfl (pure_fieldPtr rfl gU rfl rfl) ?_
                refine dr_load rfl rfl rfl rfl rfl rfl rfl gU rfl rfl rfl rfl ?_
                refine dr_pure rfl rfl rfl rfl (pure_lenSl rfl gU rfl rfl) ?_
                refine dr_pure rfl rfl rfl rfl (pure_arith rfl rfl gU gU rfl (IntWalk.i64_in _ (by omega))) ?_
                refine dr_pure rfl rfl rfl rfl (pure_cmp rfl rfl gU gU rfl) ?_
                refine dr_callN rfl rfl rfl rfl rfl rfl rfl gU gU (one_spec (t.take k) _ _ _ (take_rows t k)) rfl ?_
                refine dr_pure rfl rfl rfl rfl (pure_assign rfl gU) ?_
                refine dr_nil (by kernel_rfl) ?_
                refine awp_sub (s := { t := [(0, _, _), (3, _, _), (4, _, _), (7, _, _), (11, _, _), (12, _, _), (13, _, _), (42, _, _), (43, _, _), (44, _, _)], bx := [((.l 4), _)], ow := [] }) (sub_mk (⟨sx rfl, ⟨sx rfl, ⟨sx rfl, ⟨sx rfl, ⟨sx rfl, ⟨sx rfl, ⟨sx rfl, ⟨sx rfl, ⟨sx rfl, ⟨sx rfl, trivial⟩⟩⟩⟩⟩⟩⟩⟩⟩⟩) (⟨sx rfl, trivial⟩) trivial) ?_
                refine awp_seq (awp_region ?_)
                refine al_pure rfl rfl rfl (pure_move rfl gU) ?_
                refine al_pure rfl rfl rfl (pure_cmp rfl rfl gU gU rfl) ?_
                refine al_nil ?_
                refine awp_cond rfl (fun hc1 => ?_) (fun hc1 => ?_)
                · try simp only [nn, Fm.rows_len, Fd.rows_len] at hc1
                  refine awp_seq (awp_region ?_)
                  refine al_pure rfl rfl rfl (pure_move rfl gU) ?_
                  refine al_pure rfl rfl rfl (pure_assign rfl gU) ?_
                  refine al_nil ?_
                  refine awp_ret ?_
                  repeat (first | refine tR ?_ | refine bR ?_)
                  refine ret_ok rfl ?_ trivial
                  exact xi_eq (by grind)
                · try simp only [nn, Fm.rows_len, Fd.rows_len] at hc1
                  refine awp_skip ?_
                  refine awp_region ?_
                  refine al_pure rfl rfl rfl (pure_arith rfl rfl gU gU rfl (IntWalk.i64_in _ (by omega))) ?_
                  refine al_pure rfl rfl rfl (pure_move rfl gU) ?_
                  refine al_nil ?_
                  refine ⟨j + 1, ?_, ?_, sub_mk (⟨⟨_, rfl, ?_⟩, ⟨sx rfl, ⟨sx rfl, ⟨sx rfl, ⟨sx rfl, ⟨sx rfl, ⟨sx rfl, ⟨sx rfl, ⟨sx rfl, trivial⟩⟩⟩⟩⟩⟩⟩⟩⟩) (⟨sx rfl, trivial⟩) trivial⟩
                  all_goals (first | rfl | omega | grind)
              · try simp only [nn, Fm.rows_len, Fd.rows_len] at hc7
                rw [List.drop_of_length_le (by omega), fieldsE] at hi2
                refine awp_exit ?_
                repeat (first | refine thenS_exit ?_ | refine blockS_hit ?_ | refine blockS_miss rfl ?_)
                refine awp_region ?_
                refine al_pure rfl rfl rfl (pure_arith rfl rfl gU gU rfl (IntWalk.i64_in _ (by omega))) ?_
                refine al_pure rfl rfl rfl (pure_move rfl gU) ?_
                refine al_nil ?_
                refine ⟨k + 1, ?_, ?_, sub_mk (⟨⟨_, rfl, ?_⟩, ⟨sx rfl, ⟨sx rfl, ⟨sx rfl, trivial⟩⟩⟩⟩) trivial trivial⟩
                all_goals (first | rfl | omega | grind)
    · try simp only [nn, Fm.rows_len, Fd.rows_len] at hc2
      rw [List.drop_of_length_le (by omega), tableE] at hi
      refine awp_exit ?_
      repeat (first | refine thenS_exit ?_ | refine blockS_hit ?_ | refine blockS_miss rfl ?_)
      refine awp_seq (awp_region ?_)
      refine al_pure rfl rfl rfl (pure_assign rfl gU) ?_
      refine al_nil ?_
      refine awp_ret ?_
      repeat (first | refine tR ?_ | refine bR ?_)
      refine ret_ok rfl ?_ trivial
      exact xi_eq hi
theorem rError_spec (t : List Fm) (i : Int) : Ctr sys 42 [xtab t, xi i] [] (xi (errE t i)) none [] := by
  have hrl := Fm.rows_len t
  refine spec_intro Tryd.func42 rfl rfl rfl rfl rfl rfl ?_
  refine awp_seq (awp_region ?_)
  refine al_pure rfl rfl rfl (pure_assign rfl gU) ?_
  refine al_nil ?_
  refine awp_seq ?_
  refine awp_seq (awp_region ?_)
  refine al_pure rfl rfl rfl (pure_move rfl gU) ?_
  refine al_call rfl rfl rfl rfl rfl rfl gU gU (rValid_spec _) rfl ?_
  refine al_pure rfl rfl rfl (pure_assign rfl gU) ?_
  refine al_nil ?_
  refine awp_seq (awp_region ?_)
  refine al_pure rfl rfl rfl (pure_move rfl gU) ?_
  refine al_pure rfl rfl rfl (pure_cmp rfl rfl gU gU rfl) ?_
  refine al_nil ?_
  refine awp_sub (s := { t := [(0, _, _), (1, _, _), (5, _, _), (9, _, _)], bx := [], ow := [] }) (sub_mk (⟨sx rfl, ⟨sx rfl, ⟨sx rfl, ⟨sx rfl, trivial⟩⟩⟩⟩) trivial trivial) ?_
  refine awp_cond rfl (fun hc1 => ?_) (fun hc1 => ?_)
  · try simp only [nn, Fm.rows_len, Fd.rows_len] at hc1
    refine awp_seq (awp_region ?_)
    refine al_pure rfl rfl rfl (pure_move rfl gU) ?_
    refine al_pure rfl rfl rfl (pure_assign rfl gU) ?_
    refine al_nil ?_
    refine awp_ret ?_
    repeat (first | refine tR ?_ | refine bR ?_)
    refine ret_ok rfl ?_ trivial
    exact xi_eq (by simp only [errE]; grind)
  · try simp only [nn, Fm.rows_len, Fd.rows_len] at hc1
    refine awp_skip ?_
    refine awp_seq ?_
    refine awp_seq (awp_region ?_)
    refine al_pure rfl rfl rfl (pure_move rfl gU) ?_
    refine al_pure rfl rfl rfl (pure_cmp rfl rfl gU gU rfl) ?_
    refine al_pure rfl rfl rfl (pure_move rfl gU) ?_
    refine al_pure rfl rfl rfl (pure_move rfl gU) ?_
    refine al_pure rfl rfl rfl (pure_move rfl gU) ?_
    refine al_pure rfl rfl rfl (pure_lenSl rfl (fun hh => hh) rfl rfl) ?_
    refine al_pure rfl rfl rfl (pure_cmp rfl rfl (fun hh => hh) (fun hh => hh) rfl) ?_
    refine al_pure rfl rfl rfl (pure_or rfl rfl gU (fun _ hi => gP rfl hi)) ?_
    refine al_nil ?_
    refine awp_sub (s := { t := [(18, _, _)], bx := [], ow := [] }) (sub_mk (⟨sx rfl, trivial⟩) trivial trivial) ?_
    refine awp_cond rfl (fun hc2 => ?_) (fun hc2 => ?_)
    · try simp only [nn, Fm.rows_len, Fd.rows_len] at hc2
      refine awp_seq (awp_region ?_)
      refine al_pure rfl rfl rfl (pure_assign rfl gU) ?_
      refine al_nil ?_
      refine awp_ret ?_
      repeat (first | refine tR ?_ | refine bR ?_)
      refine ret_ok rfl ?_ trivial
      exact xi_eq (by simp only [errE]; grind)
    · try simp only [nn, Fm.rows_len, Fd.rows_len] at hc2
      refine awp_skip ?_
      refine awp_seq (awp_region ?_)
      refine al_pure rfl rfl rfl (pure_assign rfl gU) ?_
      refine al_nil ?_
      refine awp_ret ?_
      repeat (first | refine tR ?_ | refine bR ?_)
      refine ret_ok rfl ?_ trivial
      exact xi_eq (by simp only [errE]; grind)
end Go.Proofs.YthfoclblmdnckaaDoor
