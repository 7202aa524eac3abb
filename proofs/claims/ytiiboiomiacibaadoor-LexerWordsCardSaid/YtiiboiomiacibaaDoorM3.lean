/- Our abstract program logic and contracts of this seat's functions, part 3: no statement of its own. -/
import Derived.Test.YtiiboiomiacibaaDoorM2
import Derived.Below
import Derived.RangeFuncBox
import Derived.Test.YtiiboiomiacibaaDoorProg
import Derived.KernelRfl
import Derived.Lib.ItoaNum
import Derived.Shelf.Strings.SlTrimAscii
import Derived.Shelf.Strings.OnBuilder
import Derived.Shelf.Strings.Prefix
import Derived.Shelf.Strings.Split
import Derived.Shelf.Small.Strs
import Derived.Shelf.Strings.Search1
import Derived.Shelf.Strconv.Itoa4
import Derived.Shelf.LaysM
import Derived.WalkKit
import Derived.Lib.Builder
import Derived.Lib.UnsafeStr
import Derived.Laws.Externs
/- Pure calls; slices that stand in boxes by their value; a closure that sets an element of such a slice. -/
set_option linter.unusedVariables false
set_option linter.unusedSimpArgs false
namespace Go.Abs
variable {Z : Pg}

/-- A function that turns nothing. -/
theorem ctr_pure {f : FuncId} {args : List X} (us : List Value) {res : X} {v : Value} (hen : Enters Z f) (ha : ∀ (w : World) (G : Gh) (vs : List Value), All2 (XRep w G) args vs → vs = us)
    (hc : ∀ w, Calls Z.P f us.toArray w fun e w' => e = .returned v ∧ w' = w) (hr : ∀ w G, XRep w G res v) : Ctr Z f args [] res none [] := by
  refine ⟨hen, fun w G vs hvs hwf hbx hbox hown _ => ?_⟩
  obtain rfl := ha w G vs hvs
  refine (hc w).mono ?_
  rintro e w' ⟨rfl, rfl⟩
  exact ⟨v, G, rfl, Fr.refl _ _ _, fun _ _ h => h, fun _ _ _ h => h, hwf, hr _ _, fun _ => rfl, fun j cs h => by simp at h, fun sz h => by simp at h, fun b o h => absurd h (hown b o _)⟩

/-! ### Values of slices over boxes -/
def St.val (st : St) (k : Nat) (n : Nm) (sz off len : Nat) (u : Value) : St := { st with t := (k, true, .v (.msv n sz off len u)) :: st.t }
theorem Rel.val {E : Env} {G : Gh} {st : St} {a : Act} {w : World} (h : Rel E G st a w) {k sz off len : Nat} {n : Nm} (hs : st.get k = some (true, .v (.ms n sz off len))) (hl : 0 < len) : ∃ u, Rel E G (st.val k n sz off len u) a w := by
  obtain ⟨v, hv, hv1, _⟩ := h.tm _ _ _ hs
  refine ⟨v, { df := h.df, tm := ?_, bx := h.bx, ow := h.ow, wf := h.wf, olB := h.olB, olO := h.olO, nt := h.nt, oA := h.oA, im := h.im, im' := h.im', fr := h.fr, hB := h.hB, lo := h.lo, bd := h.bd }⟩
  intro j g x hj
  have hj2 : getT ((k, true, .v (.msv n sz off len v)) :: st.t) j = some (g, x) := hj
  rw [getT_cons] at hj2
  split at hj2
  · rename_i he; subst he
    simp only [Option.some.injEq, Prod.mk.injEq] at hj2
    obtain ⟨rfl, rfl⟩ := hj2
    refine ⟨v, hv, fun _ => ?_, fun hg => by simp at hg⟩
    rcases hv1 rfl with ⟨e, _⟩ | e
    · omega
    · exact ⟨rfl, e⟩
  · exact h.tm _ _ _ hj2
theorem al_val {N : Nat} {ops : Array Oper} {rest : List Oper} {K : St → Prop} {st : St} (k : Nat) {sz off len : Nat} {n : Nm} (hs : st.get k = some (true, .v (.ms n sz off len))) (hl : 0 < len)
    (h : ∀ u, AL Z N ops rest K (st.val k n sz off len u)) : AL Z N ops rest K st := fun E G a w hr hE => by
  obtain ⟨u, hu⟩ := hr.val hs hl
  exact h u E G a w hu hE
def St.same (st : St) (j : Nat) (n : Nm) (sz off len : Nat) : St := { st with t := (j, true, .v (.ms n sz off len)) :: st.t }
theorem Rel.same {E : Env} {G : Gh} {st : St} {a : Act} {w : World} (h : Rel E G st a w) {j k sz off len : Nat} {n : Nm} {u : Value} (hj : st.get j = some (true, .v (.c (.o u)))) (hs : st.get k = some (true, .v (.msv n sz off len u))) :
    Rel E G (st.same j n sz off len) a w := by
  obtain ⟨v, hv, hv1, _⟩ := h.tm _ _ _ hj
  obtain ⟨v', hv', hv2, _⟩ := h.tm _ _ _ hs
  have e1 : v = u := by
    have : CRep w G.S (.o u) v := hv1 rfl
    cases this; rfl
  subst e1
  refine { df := h.df, tm := ?_, bx := h.bx, ow := h.ow, wf := h.wf, olB := h.olB, olO := h.olO, nt := h.nt, oA := h.oA, im := h.im, im' := h.im', fr := h.fr, hB := h.hB, lo := h.lo, bd := h.bd }
  intro i g x hi
  have hj2 : getT ((j, true, .v (.ms n sz off len)) :: st.t) i = some (g, x) := hi
  rw [getT_cons] at hj2
  split at hj2
  · rename_i he; subst he
    simp only [Option.some.injEq, Prod.mk.injEq] at hj2
    obtain ⟨rfl, rfl⟩ := hj2
    refine ⟨v, hv, fun _ => ?_, fun hg => by simp at hg⟩
    obtain ⟨e, q⟩ := hv2 rfl
    subst e
    exact .inr q
  · exact h.tm _ _ _ hj2
theorem al_same {N : Nat} {ops : Array Oper} {rest : List Oper} {K : St → Prop} {st : St} (j k : Nat) {sz off len : Nat} {n : Nm} {u : Value} (hj : st.get j = some (true, .v (.c (.o u)))) (hs : st.get k = some (true, .v (.msv n sz off len u)))
    (h : AL Z N ops rest K (st.same j n sz off len)) : AL Z N ops rest K st := fun E G a w hr hE => h E G a w (hr.same hj hs) hE

/-! ### The closure -/
section
variable {st : St} {ty : TypeId} {gate : Bool}
theorem lkCaps {E : Env} {G : Gh} {a : Act} {w : World} (hr : Rel E G st a w) : ∀ {os : List Operand} {ys : List Y}, (os.map fun o => match o with | .tmp k => (match st.get k with | some (true, .v y) => some y | _ => none) | _ => none) = ys.map some →
    All2 (YRep w G) ys (os.map a.eval)
  | [], [], _ => trivial
  | [], _ :: _, h => by simp at h
  | _ :: _, [], h => by simp at h
  | o :: os, y :: ys, h => by
    simp only [List.map_cons, List.cons.injEq] at h
    refine ⟨?_, lkCaps hr h.2⟩
    have h1 := h.1
    split at h1
    · rename_i k
      split at h1
      · rename_i y' he
        simp only [Option.some.injEq] at h1; subst h1
        exact lk_rep (T := []) (ty := 0) (o := .tmp k) hr he rfl
      · simp at h1
    · simp at h1
theorem pure_makeFunc {f : FuncId} {caps : Array Operand} {ys : List Y} (h : (caps.toList.map fun o => match o with | .tmp k => (match st.get k with | some (true, .v y) => some y | _ => none) | _ => none) = ys.map some) :
    PureOk Z st (.makeFunc (.func f) #[] caps) ty gate (.fn f ys) := by
  intro o E G a w ho _ hr hgt
  refine ⟨.func (.func f) #[] (caps.toList.map a.eval).toArray, ⟨_, rfl, lkCaps hr h⟩, ?_⟩
  have : (caps.toList.map a.eval).toArray = caps.map a.eval := by rw [← Array.toList_map, Array.toArray_toList]
  rw [this]
  simp [execOp, ho, Instr.makeFunc]
end
/-- What the closure does: it sets the element with the index, where the index is not too great. -/
structure SetFn (Z : Pg) (f : FuncId) : Prop where
  en : Enters Z f
  run : ∀ (w : World) (pb po qb qo : Nat) (m n c : Int) (blk off len cap : Nat), w.cell? ⟨pb, po, none⟩ = some (.int .i64 n) → w.cell? ⟨qb, qo, none⟩ = some (.slice (some ⟨blk, off, none⟩) len cap) → 0 ≤ m → (len : Int) = n + 1 → (len : Int) < 9223372036854775807 →
    (∀ j, j < len → (w.cell? ⟨blk, off + j, none⟩).isSome = true) → (∀ j, j < len → w.frozen? ⟨blk, off + j, none⟩ = false) →
    Calls Z.P f #[.int .i64 m, .int .u64 c, .pointer (some ⟨pb, po, none⟩), .pointer (some ⟨qb, qo, none⟩)] w fun e w' => e = .returned (.tuple #[]) ∧ w' = if m ≤ n then w.setCell ⟨blk, off + m.toNat, none⟩ (.int .u64 c) else w
def setIf (cs : List C) (m n c : Int) : List C := if m ≤ n then setAt cs m.toNat [.i .u64 c] else cs
theorem setCells_one (w : World) (b o : Nat) (v : Value) : w.setCells b o [v] = w.setCell ⟨b, o, none⟩ v := rfl
theorem op1_clos {N : Nat} {ops : Array Oper} {st : St} {o : Oper} {d : Nat} {fo x y : Operand} {ts : Array TypeId} {f : FuncId} {a b r q : Nat} {m n c : Int} {len : Nat} {cs : List C} {u : Value} (S : SetFn Z f)
    (ho : o.op = .call { callee := .value fo, args := #[x, y], argTypes := ts }) (hg : gateOf ops st o = some true) (hd : o.dst = some d) (hN : Nat.ble (d + 1) N = true)
    (hf : lk Z.T st 0 fo = some (true, .fn f [.ptr (.l a) 0, .ptr (.l b) 0])) (hxy : lkAll Z.T st ts.toList [x, y] = some (true, [.v (.c (.i .i64 m)), .v (.c (.i .u64 c))]))
    (hba : st.box (.l a) = some [.i .i64 n]) (hbb : st.box (.l b) = some [.o u]) (hq : st.get q = some (true, .v (.msv (.l r) 1 0 len u))) (hbr : st.box (.l r) = some cs) (hl : cs.length = len) (hn : (len : Int) = n + 1) (hm : 0 ≤ m) (hmx : (len : Int) < 9223372036854775807) :
    Op1 Z N ops o st ((st.store (.l r) (setIf cs m n c) m.toNat 1).put d (true, .tup [])) := by
  intro E G ac w hr hE K' Q' hK
  have hdN : d < E.nt := by rw [hE.nt]; exact Nat.le_of_ble_eq_true hN
  rw [wanted_gate hr hg]
  simp only [if_true]
  obtain ⟨cvs, hfv, hcv⟩ := lk_rep hr hf rfl
  match cvs, hcv with
  | [v1, v2], ⟨hv1, hv2, _⟩ =>
  obtain ⟨hx, hy, _⟩ := lkAll_rep hr hxy rfl
  have hx1 := XRep.int hx
  have hy1 := XRep.int hy
  have hv1' : v1 = .pointer (some ⟨(G.A (.l a)).1, (G.A (.l a)).2 + 0, none⟩) := hv1
  have hv2' : v2 = .pointer (some ⟨(G.A (.l b)).1, (G.A (.l b)).2 + 0, none⟩) := hv2
  subst hv1'; subst hv2'
  obtain ⟨uq, _, huq, _⟩ := hr.tm _ _ _ hq
  obtain ⟨e1, cap, _, e2⟩ := huq rfl
  subst e1
  obtain ⟨_, _, va, ha1, ha2⟩ := hr.bx _ _ hba 0 _ rfl
  obtain ⟨_, _, vb, hb1, hb2⟩ := hr.bx _ _ hbb 0 _ rfl
  have ha3 : va = .int .i64 n := by cases ha2; rfl
  have hb3 : vb = uq := by cases hb2; rfl
  subst ha3; subst hb3
  rw [e2] at hb1
  obtain ⟨q1, q2⟩ := cells_there (hr.bx _ _ hbr) (off := 0) (len := len) (by omega)
  have hcall := S.run w (G.A (.l a)).1 ((G.A (.l a)).2 + 0) (G.A (.l b)).1 ((G.A (.l b)).2 + 0) m n c (G.A (.l r)).1 ((G.A (.l r)).2 + 0) len cap ha1 hb1 hm hn hmx
    (fun j hj => by have := q1 j hj; simpa using this) (fun j hj => by have := q2 j hj; simpa using this)
  unfold Oper.wp
  rw [run_call ho hfv S.en, Oper.upon_enter]
  have hargs : ((#[x, y] : Array Operand).toList.map ac.eval ++ [Value.pointer (some ⟨(G.A (.l a)).1, (G.A (.l a)).2 + 0, none⟩), Value.pointer (some ⟨(G.A (.l b)).1, (G.A (.l b)).2 + 0, none⟩)]).toArray =
      #[.int .i64 m, .int .u64 c, .pointer (some ⟨(G.A (.l a)).1, (G.A (.l a)).2 + 0, none⟩), .pointer (some ⟨(G.A (.l b)).1, (G.A (.l b)).2 + 0, none⟩)] := by
    simp [hx1, hy1]
  rw [hargs]
  refine hcall.mono ?_
  rintro e w' ⟨rfl, rfl⟩
  dsimp only
  rw [hd] at hK ⊢
  refine hK G _ _ (Rel.put (st := st.store (.l r) (setIf cs m n c) m.toNat 1) ?_ hdN (g := true) (fun _ => ⟨[], rfl, trivial⟩) (fun hf => by simp at hf))
  unfold setIf
  split
  · rename_i hle
    have := hr.storeAll [.i .u64 c] [.int .u64 c] (n := .l r) (off := m.toNat) hbr (by simp; omega) ⟨CRep.i _ _, trivial⟩ (fun h => by simp [Nm.isBd] at h)
    rw [Nat.add_zero]
    exact this
  · refine Rel.sub (st := st) ⟨fun _ _ x => x, ?_, ?_⟩ hr
    · intro i ds hi
      rw [St.store_box] at hi
      split at hi
      · rename_i he; subst he; rw [hbr]; exact hi
      · exact hi
    · intro p s hp
      rw [St.store_own] at hp
      split at hp
      · simp at hp
      · exact hp
theorem al_clos {N : Nat} {ops : Array Oper} {rest : List Oper} {K : St → Prop} {st : St} {o : Oper} {d : Nat} {fo x y : Operand} {ts : Array TypeId} {f : FuncId} {a b r : Nat} (q : Nat) {m n c : Int} {len : Nat} {cs : List C} {u : Value} (S : SetFn Z f)
    (ho : o.op = .call { callee := .value fo, args := #[x, y], argTypes := ts }) (hg : gateOf ops st o = some true) (hd : o.dst = some d) (hN : Nat.ble (d + 1) N = true)
    (hf : lk Z.T st 0 fo = some (true, .fn f [.ptr (.l a) 0, .ptr (.l b) 0])) (hxy : lkAll Z.T st ts.toList [x, y] = some (true, [.v (.c (.i .i64 m)), .v (.c (.i .u64 c))]))
    (hba : st.box (.l a) = some [.i .i64 n]) (hbb : st.box (.l b) = some [.o u]) (hq : st.get q = some (true, .v (.msv (.l r) 1 0 len u))) (hbr : st.box (.l r) = some cs) (hl : cs.length = len) (hn : (len : Int) = n + 1) (hm : 0 ≤ m) (hmx : (len : Int) < 9223372036854775807)
    (h : AL Z N ops rest K ((st.store (.l r) (setIf cs m n c) m.toNat 1).put d (true, .tup []))) : AL Z N ops (o :: rest) K st :=
  al_op1 (op1_clos S ho hg hd hN hf hxy hba hbb hq hbr hl hn hm hmx) h
theorem dr_clos {N : Nat} {ops : Array Oper} {rest : List Oper} {st : St} {o : Oper} {s0 : St} {B : List Nat} {k : Nat} {acc : List Lnk} {Q : St → Prop} {d : Nat} {fo x y : Operand} {ts : Array TypeId} {f : FuncId} (a b r q : Nat) {m n c : Int} {len : Nat} {cs : List C} {u : Value} {R : Foot} (S : SetFn Z f)
    (hR : R = { foot ops o [.l a, .l b, .l r] [] with rt := q :: slotsOf ops o }) (hk : ops[k]? = some o)
    (ho : o.op = .call { callee := .value fo, args := #[x, y], argTypes := ts }) (hg : gateOf ops (rs R st) o = some true) (hd : o.dst = some d) (hN : Nat.ble (d + 1) N = true)
    (hf : lk Z.T (rs R st) 0 fo = some (true, .fn f [.ptr (.l a) 0, .ptr (.l b) 0])) (hxy : lkAll Z.T (rs R st) ts.toList [x, y] = some (true, [.v (.c (.i .i64 m)), .v (.c (.i .u64 c))]))
    (hba : (rs R st).box (.l a) = some [.i .i64 n]) (hbb : (rs R st).box (.l b) = some [.o u]) (hq : (rs R st).get q = some (true, .v (.msv (.l r) 1 0 len u))) (hbr : (rs R st).box (.l r) = some cs) (hl : cs.length = len) (hn : (len : Int) = n + 1) (hm : 0 ≤ m) (hmx : (len : Int) < 9223372036854775807)
    (hr : Draw Z N s0 ops B (k + 1) rest (acc ++ [(k, { d := some (d, true, .tup []), b := some (.l r, setIf cs m n c), drop := .t d :: cellPls (.l r) m.toNat 1 }, R)]) (ap { d := some (d, true, .tup []), b := some (.l r, setIf cs m n c), drop := .t d :: cellPls (.l r) m.toNat 1 } st) Q) :
    Draw Z N s0 ops B k (o :: rest) acc st Q := by
  refine dr_cons hk (e := { d := some (d, true, .tup []), b := some (.l r, setIf cs m n c), drop := .t d :: cellPls (.l r) m.toNat 1 }) (R := R) ?_ hr (by subst hR; intro n hn; exact absurd hn (List.not_mem_nil))
  intro s2 hag _
  refine (op1_clos S ho (gateOf_sub hag.sub hg) hd hN (lk_sub hag.sub hf) (lkAll_sub hag.sub hxy) (hag.sub.bx _ _ hba) (hag.sub.bx _ _ hbb) (hag.sub.t _ _ hq) (hag.sub.bx _ _ hbr) hl hn hm hmx).sub ⟨?_, ?_, ?_⟩
  · intro j e hj
    rw [ap_get] at hj
    rw [St.put_get]
    simp only [Eff.gt] at hj
    by_cases h : d = j
    · subst h; simpa using hj
    · have h' : ¬ j = d := fun e => h e.symm
      rw [if_neg h']
      show s2.get j = _
      simpa [h] using hj
  · intro m' ds hm'
    rw [ap_box] at hm'
    show (s2.store (.l r) (setIf cs m n c) m.toNat 1).box m' = _
    rw [St.store_box]
    simp only [Eff.gb] at hm'
    split
    · rename_i he; rw [if_pos he] at hm'; exact hm'
    · rename_i he; rw [if_neg he] at hm'; exact hm'
  · intro q' s hq'
    rw [ap_own] at hq'
    rw [St.put_own]
    simp only [Eff.go, List.mem_cons] at hq'
    split
    · rename_i he; rw [if_pos (.inl he)] at hq'; exact hq'
    · rename_i he
      show (s2.store (.l r) (setIf cs m n c) m.toNat 1).own q' = _
      rw [St.store_own]
      split
      · rename_i h3; rw [if_pos (.inr (mem_cellPls.2 h3))] at hq'; exact hq'
      · rename_i h3; rw [if_neg (by rintro (h | h); exact he h; exact h3 (mem_cellPls.1 h))] at hq'; exact hq'
end Go.Abs
/- Slices of numbers that are written element by element. -/
set_option linter.unusedVariables false
set_option linter.unusedSimpArgs false
namespace Go.Abs
variable {Z : Pg}
def arr (k : IntKind) (g : Nat → Int) (n : Nat) : List C := (List.range n).map fun m => C.i k (g m)
def arrR (k : IntKind) (g : Nat → Int) (n : Nat) : List (List C) := (List.range n).map fun m => [C.i k (g m)]
def upd (g : Nat → Int) (j : Nat) (v : Int) : Nat → Int := fun m => if m = j then v else g m
theorem arr_len (k : IntKind) (g : Nat → Int) (n : Nat) : (arr k g n).length = n := by simp [arr]
theorem arrR_len (k : IntKind) (g : Nat → Int) (n : Nat) : (arrR k g n).length = n := by simp [arrR]
theorem arr_get {k : IntKind} {g : Nat → Int} {n j : Nat} (h : j < n) : (arr k g n)[j]? = some (.i k (g j)) := by
  simp [arr, List.getElem?_range h]
theorem arrR_at {k : IntKind} {g : Nat → Int} {n j : Nat} (h : j < n) : (arrR k g n)[j]? = some [.i k (g j)] := by
  simp [arrR, List.getElem?_range h]
theorem arrR_take {k : IntKind} {g : Nat → Int} {n j : Nat} (h : j ≤ n) : (arrR k g n).take j = arrR k g j := by
  simp only [arrR]
  rw [← List.map_take, List.take_range, Nat.min_eq_left h]
theorem arr_at {k : IntKind} {g : Nat → Int} {n j : Nat} (h : j < n) : (arr k g n)[0 + j * 1]? = some (.i k (g j)) := by
  rw [Nat.zero_add, Nat.mul_one]; exact arr_get h
theorem arr_flat (k : IntKind) (g : Nat → Int) (n : Nat) : arr k g n = (arrR k g n).flatten := by
  simp only [arr, arrR]
  induction List.range n with
  | nil => rfl
  | cons a l ih => simp [ih]
theorem arr_ext {k : IntKind} {g g' : Nat → Int} {n : Nat} (h : ∀ m, m < n → g m = g' m) : arr k g n = arr k g' n := by
  apply List.map_congr_left
  intro m hm
  rw [h m (by simpa using hm)]
theorem arrR_ext {k : IntKind} {g g' : Nat → Int} {n : Nat} (h : ∀ m, m < n → g m = g' m) : arrR k g n = arrR k g' n := by
  apply List.map_congr_left
  intro m hm
  rw [h m (by simpa using hm)]
theorem arr_rep (k : IntKind) (n : Nat) : (List.replicate n [C.i k 0]).flatten = arr k (fun _ => 0) n := by
  apply List.ext_getElem?
  intro j
  have : (List.replicate n [C.i k 0]).flatten = List.replicate n (C.i k 0) := by
    induction n with
    | zero => rfl
    | succ n ih => rw [List.replicate_succ, List.replicate_succ, List.flatten_cons, ih]; rfl
  rw [this]
  by_cases h : j < n
  · rw [arr_get h, List.getElem?_replicate, if_pos h]
  · rw [List.getElem?_eq_none (by simp; omega), List.getElem?_eq_none (by rw [arr_len]; omega)]
theorem setAt_arr {k : IntKind} {g : Nat → Int} {n j : Nat} {v : Int} (h : j < n) : setAt (arr k g n) (0 + j * 1) [.i k v] = arr k (upd g j v) n := by
  apply List.ext_getElem?
  intro i
  rw [setAt_get _ _ _ _ (by rw [arr_len]; simp; omega)]
  simp only [Nat.zero_add, Nat.mul_one, List.length_singleton]
  by_cases hi : i < n
  · rw [arr_get hi, arr_get hi]
    split
    · rename_i h1
      have : i = j := by omega
      subst this
      simp [upd]
    · rename_i h1
      have : ¬ i = j := by omega
      simp [upd, this]
  · rw [if_neg (by omega), List.getElem?_eq_none (by rw [arr_len]; omega), List.getElem?_eq_none (by rw [arr_len]; omega)]
theorem setIf_arr {g : Nat → Int} {n : Nat} {m N c : Int} (hm : 0 ≤ m) (hN : (n : Int) = N + 1) : setIf (arr .u64 g n) m N c = arr .u64 (fun j => if (j : Int) = m then c else g j) n := by
  unfold setIf
  split
  · rename_i h
    have h1 := setAt_arr (k := .u64) (g := g) (n := n) (j := m.toNat) (v := c) (by omega)
    rw [Nat.zero_add, Nat.mul_one] at h1
    rw [h1]
    apply arr_ext
    intro j hj
    unfold upd
    by_cases e : (j : Int) = m
    · rw [if_pos (by omega), if_pos e]
    · rw [if_neg (by omega), if_neg e]
  · rename_i h
    apply arr_ext
    intro j hj
    rw [if_neg (by omega)]
section
variable {N : Nat} {ops : Array Oper} {rest : List Oper} {K : St → Prop} {st : St} {o : Oper} {d : Nat} {ty : TypeId}
theorem does_makeArr {t e by' : Nat} {x y : Operand} {ti te : TyI} {n : Nat} {m : Int} {k ke : IntKind} (hx : lk Z.T st ty x = some (true, .v (.c (.i k m)))) (hy : lk Z.T st ty y = some (true, .v (.c (.i k m))))
    (ht : tyAt Z.T t = some ti) (hel : ti.el = some (e, 1, by')) (hte : tyAt Z.T e = some te) (hz : te.z = [.i ke 0]) (hN : Nat.ble (d + 1) N = true) (hfr : st.fresh (.l d) = true) (hm : m = (n : Int)) (hbig : n * by' ≤ 140737488355328) (hmax : n ≤ 9223372036854775807) :
    Does Z N st (some d) (.makeSlice t x y) ty ((st.addBox (.l d) (arr ke (fun _ => 0) n)).put d (true, .v (.ms (.l d) 1 0 n))) := by
  have := does_makeMs (n := n) hx hy ht hel hte hN hfr hm hbig hmax
  rw [hz, arr_rep] at this
  exact this
theorem does_storeArr {t : TypeId} {x v : Operand} {n : Nm} {j len : Nat} {k : IntKind} {g : Nat → Int} {c : Int} {ti : TyI} (hx : lk Z.T st t x = some (true, .v (.ptr n (0 + j * 1)))) (hv : lk Z.T st t v = some (true, .v (.c (.i k c))))
    (hb : st.box n = some (arr k g len)) (ht : tyAt Z.T t = some ti) (hn : ti.n = 1) (hj : j < len) (hnb : (!n.isBd || !Nat.beq (0 + j * 1) 0) = true) :
    Does Z N st none (.store t x v) ty (st.store n (arr k (upd g j c) len) (0 + j * 1) 1) := by
  have := does_store (Z := Z) (N := N) (ty := ty) hx hv (ds := [.i k c]) rfl hb ht (by rw [hn]; rfl) (Nat.ble_eq_true_of_le (by rw [arr_len]; simp; omega)) hnb
  rw [setAt_arr hj] at this
  exact this
end
section
variable {N : Nat} {ops : Array Oper} {rest : List Oper} {st : St} {o : Oper} {s0 : St} {B : List Nat} {q : Nat} {acc : List Lnk} {Q : St → Prop}
theorem dr_storeArr {t : TypeId} {x v : Operand} {n : Nm} {j len : Nat} {k : IntKind} {g : Nat → Int} {c : Int} {ti : TyI} (hk : ops[q]? = some o) (ho : o.op = .store t x v) (hx0 : lk Z.T st t x = some (true, .v (.ptr n (0 + j * 1)))) (hg : gateOf ops (rs (foot ops o [n] []) st) o = some true) (hd : o.dst = none)
    (hx : lk Z.T (rs (foot ops o [n] []) st) t x = some (true, .v (.ptr n (0 + j * 1)))) (hv : lk Z.T (rs (foot ops o [n] []) st) t v = some (true, .v (.c (.i k c))))
    (hb : (rs (foot ops o [n] []) st).box n = some (arr k g len)) (ht : tyAt Z.T t = some ti) (hn : ti.n = 1) (hj : j < len) (hnb : (!n.isBd || !Nat.beq (0 + j * 1) 0) = true)
    (hr : Draw Z N s0 ops B (q + 1) rest (acc ++ [(q, { b := some (n, arr k (upd g j c) len), drop := cellPls n (0 + j * 1) 1 }, foot ops o [n] [])]) (ap { b := some (n, arr k (upd g j c) len), drop := cellPls n (0 + j * 1) 1 } st) Q) :
    Draw Z N s0 ops B q (o :: rest) acc st Q := by
  refine dr_store hk ho hx0 hg hd hx hv (ds := [.i k c]) rfl hb ht (by rw [hn]; rfl) (Nat.ble_eq_true_of_le (by rw [arr_len]; simp; omega)) ?_ hnb
  rw [setAt_arr hj]
  exact hr
end
theorem awp_freezeArr {N : Nat} {c : Code} {Q : Exit → St → Prop} {st : St} (k m : Nat) {L : Nat} {kd : IntKind} {g : Nat → Int} (hs : st.get k = some (true, .v (.ms (.l m) 1 0 L)))
    (hb : st.box (.l m) = some (arr kd g L)) (hm : L ≤ 9223372036854775807) (hfo : st.freshO (.l m, false) = true)
    (h : AWP Z N c Q (st.frz k m 1 (arrR kd g L))) : AWP Z N c Q st :=
  awp_freeze k m (arrR kd g L) hs (by rw [hb, arr_flat]) (arrR_len _ _ _) hm (fun i row hi => by
    simp only [arrR, List.getElem?_map] at hi
    cases hr : (List.range L)[i]? with
    | none => rw [hr] at hi; simp at hi
    | some x => rw [hr] at hi; simp at hi; subst hi; rfl) hfo h
theorem al_freezeArr {N : Nat} {ops : Array Oper} {rest : List Oper} {K : St → Prop} {st : St} (k m : Nat) {L : Nat} {kd : IntKind} {g : Nat → Int} (hs : st.get k = some (true, .v (.ms (.l m) 1 0 L)))
    (hb : st.box (.l m) = some (arr kd g L)) (hm : L ≤ 9223372036854775807) (hfo : st.freshO (.l m, false) = true)
    (h : AL Z N ops rest K (st.frz k m 1 (arrR kd g L))) : AL Z N ops rest K st :=
  al_freeze k m (arrR kd g L) hs (by rw [hb, arr_flat]) (arrR_len _ _ _) hm (fun i row hi => by
    simp only [arrR, List.getElem?_map] at hi
    cases hr : (List.range L)[i]? with
    | none => rw [hr] at hi; simp at hi
    | some x => rw [hr] at hi; simp at hi; subst hi; rfl) hfo h
theorem al_rename {N : Nat} {ops : Array Oper} {rest : List Oper} {K : St → Prop} {st : St} (k m m' : Nat) {sz L : Nat} {cs : List C} (hs : st.get k = some (true, .v (.ms (.l m) sz 0 L))) (hb : st.box (.l m) = some cs)
    (hfr : st.freshO (.l m', true) = true) (hfo : st.freshO (.l m, false) = true) (h : AL Z N ops rest K (st.ren k m m' sz L cs)) : AL Z N ops rest K st :=
  fun E G a w hr hE => h E _ a w (hr.rename hs hb (St.freshO_ok hfr) (St.freshO_ok hfo)) hE
theorem al_closArr {N : Nat} {ops : Array Oper} {rest : List Oper} {K : St → Prop} {st : St} {o : Oper} {d : Nat} {fo x y : Operand} {ts : Array TypeId} {f : FuncId} {a b r : Nat} (q : Nat) {m n c : Int} {len : Nat} {g : Nat → Int} {u : Value} (S : SetFn Z f)
    (ho : o.op = .call { callee := .value fo, args := #[x, y], argTypes := ts }) (hg : gateOf ops st o = some true) (hd : o.dst = some d) (hN : Nat.ble (d + 1) N = true)
    (hf : lk Z.T st 0 fo = some (true, .fn f [.ptr (.l a) 0, .ptr (.l b) 0])) (hxy : lkAll Z.T st ts.toList [x, y] = some (true, [.v (.c (.i .i64 m)), .v (.c (.i .u64 c))]))
    (hba : st.box (.l a) = some [.i .i64 n]) (hbb : st.box (.l b) = some [.o u]) (hq : st.get q = some (true, .v (.msv (.l r) 1 0 len u))) (hbr : st.box (.l r) = some (arr .u64 g len)) (hn : (len : Int) = n + 1) (hm : 0 ≤ m) (hmx : (len : Int) < 9223372036854775807)
    (h : AL Z N ops rest K ((st.store (.l r) (arr .u64 (fun j => if (j : Int) = m then c else g j) len) m.toNat 1).put d (true, .tup []))) : AL Z N ops (o :: rest) K st :=
  al_clos q S ho hg hd hN hf hxy hba hbb hq hbr (arr_len _ _ _) hn hm hmx (by rw [setIf_arr hm hn]; exact h)
theorem dr_closArr {N : Nat} {ops : Array Oper} {rest : List Oper} {st : St} {o : Oper} {s0 : St} {B : List Nat} {k : Nat} {acc : List Lnk} {Q : St → Prop} {d : Nat} {fo x y : Operand} {ts : Array TypeId} {f : FuncId} (a b r q : Nat) {m n c : Int} {len : Nat} {g : Nat → Int} {u : Value} {R : Foot} (S : SetFn Z f)
    (hR : R = { foot ops o [.l a, .l b, .l r] [] with rt := q :: slotsOf ops o }) (hk : ops[k]? = some o)
    (ho : o.op = .call { callee := .value fo, args := #[x, y], argTypes := ts }) (hg : gateOf ops (rs R st) o = some true) (hd : o.dst = some d) (hN : Nat.ble (d + 1) N = true)
    (hf : lk Z.T (rs R st) 0 fo = some (true, .fn f [.ptr (.l a) 0, .ptr (.l b) 0])) (hxy : lkAll Z.T (rs R st) ts.toList [x, y] = some (true, [.v (.c (.i .i64 m)), .v (.c (.i .u64 c))]))
    (hba : (rs R st).box (.l a) = some [.i .i64 n]) (hbb : (rs R st).box (.l b) = some [.o u]) (hq : (rs R st).get q = some (true, .v (.msv (.l r) 1 0 len u))) (hbr : (rs R st).box (.l r) = some (arr .u64 g len)) (hn : (len : Int) = n + 1) (hm : 0 ≤ m) (hmx : (len : Int) < 9223372036854775807)
    (hr : Draw Z N s0 ops B (k + 1) rest (acc ++ [(k, { d := some (d, true, .tup []), b := some (.l r, arr .u64 (fun j => if (j : Int) = m then c else g j) len), drop := .t d :: cellPls (.l r) m.toNat 1 }, R)]) (ap { d := some (d, true, .tup []), b := some (.l r, arr .u64 (fun j => if (j : Int) = m then c else g j) len), drop := .t d :: cellPls (.l r) m.toNat 1 } st) Q) :
    Draw Z N s0 ops B k (o :: rest) acc st Q :=
  dr_clos a b r q S hR hk ho hg hd hN hf hxy hba hbb hq hbr (arr_len _ _ _) hn hm hmx (by rw [setIf_arr hm hn]; exact hr)
end Go.Abs
/- Ownership in a restricted state. -/
set_option linter.unusedVariables false
set_option linter.unusedSimpArgs false
namespace Go.Abs
theorem rko {ops : Array Oper} {o : Oper} {rb : List Nm} {st : St} {p : Pl} {sz : Nat} (h : st.own p = some sz) : (rs (foot ops o rb [p]) st).own p = some sz := by
  show getO (pickO st [p]) p = some sz
  simp only [pickO, h]
  rw [getO_cons, if_pos rfl]
theorem ak2 {e : Eff} {s : St} {p : Pl} {sz : Nat} (hk : e.keeps p = true) (h : s.own p = some sz) : (ap e s).own p = some sz := by
  unfold Eff.keeps at hk
  rw [Bool.and_eq_true] at hk
  obtain ⟨h1, h2⟩ := hk
  rw [ap_own, Eff.go]
  have hd : ¬ p ∈ e.drop := by
    intro hp
    have : e.drop.any (Pl.beq p) = true := List.any_eq_true.2 ⟨p, hp, Pl.beq_self p⟩
    rw [this] at h1; simp at h1
  cases hg : e.gain with
  | none => dsimp only; rw [if_neg hd]; exact h
  | some x =>
    obtain ⟨q, y⟩ := x
    rw [hg] at h2
    dsimp only at h2 ⊢
    have hq : ¬ q = p := by
      intro z; subst z; rw [Pl.beq_self] at h2; simp at h2
    rw [if_neg hq, if_neg hd]; exact h
end Go.Abs
/- Contracts of library functions, turned into contracts of the frame. -/
set_option linter.unusedVariables false
set_option linter.unusedSimpArgs false
namespace Go.Abs
open Go.RowKit (Below)
variable {Z : Pg}
/-- A block that holds a number first. -/
def intAt (b : Option Obj) : Prop := ∃ cs t s m, b = some (.cells cs t s) ∧ cs[0]? = some (.int .i64 m)
/-- A block that holds just these cells. -/
def rowIs (vs : Array Value) (b : Option Obj) : Prop := ∃ t s, b = some (.cells vs t s)
theorem intAt.cell {w : World} {g : Nat} (h : intAt w.heap[g]?) : ∃ m, w.cell? ⟨g, 0, none⟩ = some (.int .i64 m) := by
  obtain ⟨cs, t, s, m, h1, h2⟩ := h
  exact ⟨m, by unfold World.cell?; rw [h1]; simpa using h2⟩
theorem intAt.of {w : World} {g : Nat} {m : Int} (h : w.cell? ⟨g, 0, none⟩ = some (.int .i64 m)) : intAt w.heap[g]? := by
  unfold World.cell? at h
  dsimp only at h
  split at h
  · rename_i cs t s hb
    exact ⟨cs, t, s, m, hb, by simpa using h⟩
  · simp at h
theorem Fr.ofBelow {M : Nat → Nat → Prop} {w w' : World} (h : Below w.heap.size w w') : Fr M w.heap.size w w' where
  os := h.os
  tape := h.tape
  output := h.output
  size := h.size
  block := fun b hb _ => h.block b hb
  cell := fun b o hb _ => by unfold World.cell?; rw [h.block b hb]
  mark := fun b hb => by unfold markOf; rw [h.block b hb]
  shape := fun b hb => by unfold World.shape?; rw [h.block b hb]
/-- A function that turns nothing that was there, and whose result holds in every world. -/
theorem ctr_below {f : FuncId} {args : List X} {res : X} {v : Value} (hen : Enters Z f)
    (hc : ∀ (w : World) (G : Gh) (vs : List Value), All2 (XRep w G) args vs → (∀ b o, G.W b o ≠ .none → b < w.heap.size) → GlOk Z w G → Calls Z.P f vs.toArray w fun e w' => e = .returned v ∧ Below w.heap.size w w') (hr : ∀ w G, XRep w G res v) : Ctr Z f args [] res none [] := by
  refine ⟨hen, fun w G vs hvs hwf hbx hbox hown hgl => ?_⟩
  refine (hc w G vs hvs hwf hgl).mono ?_
  rintro e w' ⟨rfl, hb⟩
  exact ⟨v, G, rfl, Fr.ofBelow hb, fun _ _ h => h, fun _ _ _ h => h, fun b o h => Nat.lt_of_lt_of_le (hwf b o h) hb.size, hr _ _, fun _ => rfl, fun j cs h => by simp at h, fun sz h => by simp at h, fun b o h => absurd h (hown b o _)⟩
theorem below_alloc (w : World) (o : Obj) : Below w.heap.size w (w.alloc o) := (Below.refl _ w).alloc (Nat.le_refl _) o
/-- A function that lays one row of new cells, of one cell each, and hands back the slice of them all. -/
theorem ctr_alloc {f : FuncId} {args : List X} {cs : List C} {vals : List Value} {ty : TypeId} (hen : Enters Z f) (hlen : vals.length ≤ 9223372036854775807) (hv : ∀ w S, All2 (CRep w S) cs vals)
    (hc : ∀ (w : World) (G : Gh) (vs : List Value), All2 (XRep w G) args vs → GlOk Z w G → Calls Z.P f vs.toArray w fun e w' => e = .returned (.slice (some ⟨w.heap.size, 0, none⟩) vals.length vals.length) ∧ w' = w.alloc (.cells vals.toArray ty)) :
    Ctr Z f args [] (.v (.c (.sl 1 (cs.map fun c => [c])))) none [] := by
  refine ⟨hen, fun w G vs hvs hwf hbx hbox hown hgl => ?_⟩
  refine (hc w G vs hvs hgl).mono ?_
  rintro e w' ⟨rfl, rfl⟩
  have hb := below_alloc w (.cells vals.toArray ty)
  have hnew : ∀ j, (w.alloc (.cells vals.toArray ty)).cell? ⟨w.heap.size, j, none⟩ = vals[j]? := by
    intro j
    unfold World.cell?
    rw [World.alloc_heap_new]
    simp
  have hsz : (w.alloc (.cells vals.toArray ty)).heap.size = w.heap.size + 1 := by simp
  let G' : Gh := { G with W := fun b o => if b = w.heap.size then .imm else G.W b o }
  have hl : cs.length = vals.length := (hv w G.S).len
  refine ⟨_, G', rfl, Fr.ofBelow hb, fun b o h => ?_, fun b o hlt h => ?_, fun b o h => ?_, ?_, fun _ => rfl, fun j cs h => by simp at h, fun sz h => by simp at h, fun b o h => ?_⟩
  · show (if b = w.heap.size then Who.imm else G.W b o) = .imm
    split
    · rfl
    · exact h
  · have h2 : (if b = w.heap.size then Who.imm else G.W b o) = .imm := h
    rwa [if_neg (Nat.ne_of_lt hlt)] at h2
  · have h2 : (if b = w.heap.size then Who.imm else G.W b o) ≠ .none := h
    split at h2
    · rw [hsz]; omega
    · have := hwf b o h2; rw [hsz]; omega
  · show CRep _ _ (.sl 1 (cs.map fun c => [c])) _
    refine .sl 1 _ w.heap.size 0 vals.length vals.length (fun i j => vals.getD i (.bool false)) (by simpa using hl) (Nat.le_refl _) hlen (fun i row h => ?_) (fun i j hi hj => ?_) (fun i row j c h1 h2 => ?_)
    · rw [List.getElem?_map, Option.map_eq_some_iff] at h
      obtain ⟨a, _, rfl⟩ := h
      rfl
    · refine ⟨?_, ?_⟩
      · show (if w.heap.size = w.heap.size then Who.imm else _) = .imm
        rw [if_pos rfl]
      · rw [hnew, List.getD_eq_getElem?_getD]
        obtain rfl : j = 0 := by omega
        rw [show 0 + i * 1 + 0 = i by omega, List.getElem?_eq_getElem hi]; rfl
    · rw [List.getElem?_map, Option.map_eq_some_iff] at h1
      obtain ⟨a, ha, rfl⟩ := h1
      cases j with
      | succ j => simp at h2
      | zero =>
        simp only [List.getElem?_cons_zero, Option.some.injEq] at h2
        subst h2
        obtain ⟨v, hv1, hv2⟩ := (hv (w.alloc (.cells vals.toArray ty)) G'.S).get i a ha
        rw [List.getD_eq_getElem?_getD, hv1]
        exact hv2
  · have h2 : (if b = w.heap.size then Who.imm else G.W b o) = .own (.t 0) := h
    split at h2
    · cases h2
    · exact absurd h2 (hown b o _)
/-- A contract holds where more is known of package variables. -/
theorem Ctr.wk {Z Z' : Pg} {f : FuncId} {args : List X} {bs bs' : List (List C)} {res : X} {ro : Option Nat} (hP : Z'.P = Z.P) (hg : ∀ g ∈ Z.gv, g ∈ Z'.gv) (h : Ctr Z f args bs res ro bs') : Ctr Z' f args bs res ro bs' := by
  obtain ⟨⟨fn, h1, h2, h3⟩, h4⟩ := h
  refine ⟨⟨fn, by rw [hP]; exact h1, h2, h3⟩, fun w G vs a b c d e g => ?_⟩
  rw [hP]
  exact h4 w G vs a b c d e fun x hx => g x (hg x hx)
end Go.Abs
/- Writing a string into a Builder within a drawn region. -/
set_option linter.unusedVariables false
set_option linter.unusedSimpArgs false
namespace Go.Abs
variable {Z : Pg}
section
variable {N : Nat} {st : St} {ops : Array Oper} {o : Oper} {d k : Nat} {fo x y : Operand} {ts : Array TypeId} {m : List UInt8}
theorem op1_bws (B : BdSys Z) {l : List UInt8} (ho : o.op = .call { callee := .value fo, args := #[x, y], argTypes := ts }) (hg : gateOf ops st o = some true) (hd : o.dst = some d) (hN : Nat.ble (d + 1) N = true)
    (hf : lk Z.T st 0 fo = some (true, .fn B.fW [])) (ha : lkAll Z.T st ts.toList [x, y] = some (true, [.v (.ptr (.bd B.tN k) 0), .v (.c (.s l))]))
    (hb : st.box (.bd B.tN k) = some [.bl, .sl 1 (bytesR m)]) (hw : st.own (.b (.bd B.tN k) 1) = some 1) (hlen : m.length + l.length ≤ 140737488355328) :
    Op1 Z N ops o st ((st.bw B.tN k (m ++ l)).put d (true, .tup [.c (.i .i64 (l.length : Int)), .c (.o .nilIface)])) := by
  intro E G a w hr hE K' Q' hK
  have hdN : d < E.nt := by rw [hE.nt]; exact Nat.le_of_ble_eq_true hN
  rw [wanted_gate hr hg]
  simp only [if_true]
  obtain ⟨cvs, hfv, hcv⟩ := lk_rep hr hf rfl
  have hcv0 : cvs = [] := by cases cvs with
    | nil => rfl
    | cons _ _ => exact hcv.elim
  subst hcv0
  obtain ⟨hx, hy, _⟩ := lkAll_rep hr ha rfl
  have hx1 : a.eval x = _ := hx
  have hy1 := XRep.str hy
  unfold Oper.wp
  rw [run_call ho hfv B.enW, Oper.upon_enter]
  obtain ⟨w0, v', uo, un, uc, w1, hck, hsh, hfz, hA0, hc0, hrun, hc1, hf1, G1, hrel⟩ := bd_write B hr hb hw (l := l) (tx := B.tStr) (xv := fun _ => .string ⟨l.toArray⟩) (news := byteCells ⟨l.toArray⟩) (pre := fun w => w)
    (fun w0 h0 => ⟨h0, by
      have := Src.ofString (P := Z.P) w0 B.hstr ⟨l.toArray⟩
      rw [size_mk] at this
      rw [bytesR_len]; exact this, fun _ _ _ => rfl⟩) (fun w' => bytes_src l) hlen
  have hcall := B.ws (G.A (.bd B.tN k)).1 w w0 w1 v' uo un uc ⟨l.toArray⟩ hck hsh hfz hc0 hrun hc1 hf1
  have hargs : ((#[x, y] : Array Operand).toList.map a.eval ++ []).toArray = #[.pointer (some ⟨(G.A (.bd B.tN k)).1, 0, none⟩), .string ⟨l.toArray⟩] := by
    simp [hx1, hy1, hA0]
  rw [hargs]
  refine hcall.mono ?_
  rintro e w' ⟨rfl, rfl⟩
  dsimp only
  rw [hd] at hK ⊢
  refine hK G1 _ _ (hrel.put hdN (g := true) (fun _ => ?_) (fun hf => by simp at hf))
  exact ⟨[.int .i64 (l.length : Int), .nilIface], by rw [size_mk], CRep.i _ _, CRep.o _ rfl, trivial⟩


theorem ls_bws (B : BdSys Z) {R : Foot} {l : List UInt8} (ho : o.op = .call { callee := .value fo, args := #[x, y], argTypes := ts }) (hg : gateOf ops (rs R st) o = some true) (hd : o.dst = some d) (hN : Nat.ble (d + 1) N = true)
    (hf : lk Z.T (rs R st) 0 fo = some (true, .fn B.fW [])) (ha : lkAll Z.T (rs R st) ts.toList [x, y] = some (true, [.v (.ptr (.bd B.tN k) 0), .v (.c (.s l))]))
    (hb : (rs R st).box (.bd B.tN k) = some [.bl, .sl 1 (bytesR m)]) (hw : (rs R st).own (.b (.bd B.tN k) 1) = some 1) (hlen : m.length + l.length ≤ 140737488355328) :
    LS Z N ops o { d := some (d, true, .tup [.c (.i .i64 (l.length : Int)), .c (.o .nilIface)]), b := some (.bd B.tN k, [.bl, .sl 1 (bytesR (m ++ l))]), drop := .t d :: cellPls (.bd B.tN k) 0 2, gain := some (.b (.bd B.tN k) 1, 1) } R st := by
  intro s2 hag _
  refine (op1_bws B (st := s2) ho (gateOf_sub hag.sub hg) hd hN (lk_sub hag.sub hf) (lkAll_sub hag.sub ha) (hag.sub.bx _ _ hb) (hag.sub.ow _ _ hw) hlen).sub ⟨?_, ?_, ?_⟩
  · intro j e hj
    rw [ap_get] at hj
    rw [St.put_get]
    simp only [Eff.gt] at hj
    by_cases h : d = j
    · subst h; simpa using hj
    · have h' : ¬ j = d := fun e => h e.symm
      rw [if_neg h']
      show s2.get j = _
      simpa [h] using hj
  · intro m' ds hm
    rw [ap_box] at hm
    show (s2.store (.bd B.tN k) [.bl, .sl 1 (bytesR (m ++ l))] 0 2).box m' = _
    rw [St.store_box]
    simp only [Eff.gb] at hm
    split
    · rename_i he; rw [if_pos he] at hm; exact hm
    · rename_i he; rw [if_neg he] at hm; exact hm
  · intro q s hq
    rw [ap_own] at hq
    rw [St.put_own]
    simp only [Eff.go, List.mem_cons] at hq
    by_cases hgq : (Pl.b (.bd B.tN k) 1) = q
    · rw [if_pos hgq] at hq
      subst hgq
      rw [if_neg (by intro e; cases e)]
      unfold St.bw
      rw [St.addOwn_own, if_pos rfl]
      exact hq
    · rw [if_neg hgq] at hq
      split
      · rename_i he; rw [if_pos (.inl he)] at hq; exact hq
      · rename_i he
        unfold St.bw
        rw [St.addOwn_own, if_neg hgq, St.store_own]
        split
        · rename_i h3; rw [if_pos (.inr (mem_cellPls.2 h3))] at hq; exact hq
        · rename_i h3; rw [if_neg (by rintro (h | h); exact he h; exact h3 (mem_cellPls.1 h))] at hq; exact hq
end
theorem dr_bws {s0 : St} {N : Nat} {ops : Array Oper} {L : List Nat} {i k d : Nat} {rest : List Oper} {acc : List (Nat × Eff × Foot)} {st : St} {o : Oper} {Q : St → Prop} {fo x y : Operand} {ts : Array TypeId} {m : List UInt8} (B : BdSys Z) {l : List UInt8} (hk : ops[i]? = some o)
    (ho : o.op = .call { callee := .value fo, args := #[x, y], argTypes := ts }) (hg : gateOf ops (rs (foot ops o [.bd B.tN k] [.b (.bd B.tN k) 1]) st) o = some true) (hd : o.dst = some d) (hN : Nat.ble (d + 1) N = true)
    (hf : lk Z.T (rs (foot ops o [.bd B.tN k] [.b (.bd B.tN k) 1]) st) 0 fo = some (true, .fn B.fW [])) (ha : lkAll Z.T (rs (foot ops o [.bd B.tN k] [.b (.bd B.tN k) 1]) st) ts.toList [x, y] = some (true, [.v (.ptr (.bd B.tN k) 0), .v (.c (.s l))]))
    (hb : (rs (foot ops o [.bd B.tN k] [.b (.bd B.tN k) 1]) st).box (.bd B.tN k) = some [.bl, .sl 1 (bytesR m)]) (hw : (rs (foot ops o [.bd B.tN k] [.b (.bd B.tN k) 1]) st).own (.b (.bd B.tN k) 1) = some 1) (hlen : m.length + l.length ≤ 140737488355328)
    (hr : Draw Z N s0 ops L (i + 1) rest (acc ++ [(i, { d := some (d, true, .tup [.c (.i .i64 (l.length : Int)), .c (.o .nilIface)]), b := some (.bd B.tN k, [.bl, .sl 1 (bytesR (m ++ l))]), drop := .t d :: cellPls (.bd B.tN k) 0 2, gain := some (.b (.bd B.tN k) 1, 1) }, foot ops o [.bd B.tN k] [.b (.bd B.tN k) 1])])
      (ap { d := some (d, true, .tup [.c (.i .i64 (l.length : Int)), .c (.o .nilIface)]), b := some (.bd B.tN k, [.bl, .sl 1 (bytesR (m ++ l))]), drop := .t d :: cellPls (.bd B.tN k) 0 2, gain := some (.b (.bd B.tN k) 1, 1) } st) Q) :
    Draw Z N s0 ops L i (o :: rest) acc st Q := dr_cons hk (ls_bws B ho hg hd hN hf ha hb hw hlen) hr
end Go.Abs
/- The program of this seat, as the abstract machine sees it: its types, and that the table is right. -/
set_option linter.unusedVariables false
set_option linter.unusedSimpArgs false
namespace Go.Proofs.YtiiboiomiacibaaDoor
open Go Go.Abs
def tab : List (Option TyI) := [none,
  none,
  some { n := 1, agg := false, offs := [], el := none, z := [.i .i64 0] },
  some { n := 1, agg := false, offs := [], el := none, z := [.i .i64 0] },
  some { n := 1, agg := false, offs := [], el := none, z := [.b false] },
  some { n := 1, agg := false, offs := [], el := none, z := [.i .u8 0] },
  some { n := 1, agg := false, offs := [], el := none, z := [.i .u8 0] },
  some { n := 4, agg := true, offs := [0, 1, 2, 3], el := none, z := [.i .i64 0, .i .i64 0, .b false, .i .u8 0] },
  some { n := 4, agg := true, offs := [0, 1, 2, 3], el := none, z := [.i .i64 0, .i .i64 0, .b false, .i .u8 0] },
  some { n := 1, agg := false, offs := [], el := none, z := [.s []] },
  some { n := 1, agg := false, offs := [], el := none, z := [.s []] },
  some { n := 1, agg := false, offs := [], el := none, z := [.s []] },
  some { n := 1, agg := false, offs := [], el := none, z := [.i .u64 0] },
  some { n := 2, agg := true, offs := [0, 1], el := none, z := [.s [], .i .u64 0] },
  some { n := 2, agg := true, offs := [0, 1], el := none, z := [.s [], .i .u64 0] },
  some { n := 1, agg := false, offs := [], el := none, z := [.o (.pointer none)] },
  some { n := 1, agg := false, offs := [], el := none, z := [.o (.pointer none)] },
  some { n := 1, agg := false, offs := [], el := none, z := [.o (.pointer none)] },
  some { n := 1, agg := true, offs := [0], el := none, z := [.o (.pointer none)] },
  some { n := 1, agg := true, offs := [0], el := none, z := [.o (.pointer none)] },
  none,
  some { n := 1, agg := false, offs := [], el := none, z := [.i .i32 0] },
  none,
  some { n := 1, agg := false, offs := [], el := some (37, 5, 56), z := [.sl 5 []] },
  some { n := 1, agg := false, offs := [], el := none, z := [.i .i64 0] },
  none,
  none,
  none,
  none,
  some { n := 1, agg := false, offs := [], el := some (9, 1, 16), z := [.sl 1 []] },
  none,
  none,
  none,
  none,
  none,
  some { n := 1, agg := false, offs := [], el := some (5, 1, 1), z := [.sl 1 []] },
  some { n := 5, agg := true, offs := [0, 1, 2, 3, 4], el := none, z := [.i .i64 0, .s [], .i .i64 0, .s [], .i .i64 0] },
  some { n := 5, agg := true, offs := [0, 1, 2, 3, 4], el := none, z := [.i .i64 0, .s [], .i .i64 0, .s [], .i .i64 0] },
  none,
  none,
  none,
  none,
  none,
  none,
  none,
  none,
  none,
  none,
  none,
  none,
  none,
  some { n := 1, agg := false, offs := [], el := none, z := [.o (.pointer none)] },
  some { n := 2, agg := true, offs := [0, 1], el := none, z := [.o (.pointer none), .sl 1 []] },
  some { n := 2, agg := true, offs := [0, 1], el := none, z := [.o (.pointer none), .sl 1 []] },
  none,
  none,
  none,
  none,
  none,
  some { n := 1, agg := false, offs := [], el := none, z := [.i .u64 0] },
  none,
  none,
  none,
  none,
  none,
  none,
  none,
  none,
  none,
  none,
  none,
  none,
  none,
  some { n := 1, agg := false, offs := [], el := none, z := [.o (.pointer none)] },
  none,
  none,
  none,
  some { n := 1, agg := false, offs := [], el := none, z := [.o (.pointer none)] },
  none,
  none,
  none,
  none,
  none,
  none,
  none,
  none,
  none,
  none,
  none,
  none,
  some { n := 1, agg := false, offs := [], el := none, z := [.i .u64 0] },
  none,
  none,
  none,
  none,
  none,
  none,
  none,
  none,
  some { n := 1, agg := false, offs := [], el := none, z := [.i .u32 0] },
  none,
  none,
  none,
  none,
  none,
  some { n := 2, agg := true, offs := [0, 1], el := none, z := [.i .u8 0, .i .u8 0] },
  some { n := 2, agg := true, offs := [0, 1], el := none, z := [.i .u8 0, .i .u8 0] },
  none,
  none,
  none,
  none,
  none,
  none,
  none,
  some { n := 4, agg := true, offs := [0, 1, 2, 3], el := none, z := [.o (.pointer none), .o (.pointer none), .o (.pointer none), .s []] },
  some { n := 4, agg := true, offs := [0, 1, 2, 3], el := none, z := [.o (.pointer none), .o (.pointer none), .o (.pointer none), .s []] },
  none,
  none,
  none,
  none,
  some { n := 1, agg := false, offs := [], el := none, z := [.i .u8 0] },
  some { n := 1, agg := false, offs := [], el := none, z := [.i .u8 0] },
  none,
  some { n := 1, agg := false, offs := [], el := none, z := [.i .i32 0] },
  some { n := 1, agg := false, offs := [], el := none, z := [.i .i32 0] },
  some { n := 11, agg := true, offs := [0, 1, 2, 3, 4, 5, 6, 7, 8, 9, 10], el := none, z := [.i .u64 0, .i .u64 0, .i .u32 0, .i .u8 0, .i .u8 0, .i .u8 0, .i .u8 0, .o .nilFunc, .o (.pointer none), .i .i32 0, .i .i32 0] },
  some { n := 11, agg := true, offs := [0, 1, 2, 3, 4, 5, 6, 7, 8, 9, 10], el := none, z := [.i .u64 0, .i .u64 0, .i .u32 0, .i .u8 0, .i .u8 0, .i .u8 0, .i .u8 0, .o .nilFunc, .o (.pointer none), .i .i32 0, .i .i32 0] }]
theorem tab_ok : tabFrom Tryd.prog 0 tab = true := by kernel_rfl
theorem mix_ok : Tryd.prog.follows .mixedOrders = true := by kernel_rfl
noncomputable def sys : Pg := { P := Tryd.prog, T := tab, ok := tab_ok, mix := mix_ok, gv := [(1, intAt)] }
theorem nn : (∀ a b : Bool, ((a && b) = true) = (a = true ∧ b = true)) ∧ (∀ a b : Bool, ((a || b) = true) = (a = true ∨ b = true)) ∧ (∀ b : Bool, ((!b) = true) = (b = false)) ∧ (∀ b : Bool, ((!b) = false) = (b = true)) ∧
    (∀ x y : Bool, (x || y) = false ↔ x = false ∧ y = false) ∧ (∀ x y : Bool, (x && y) = false ↔ x = false ∨ y = false) ∧ (∀ (p : Prop) [Decidable p], (decide p = true) = p) ∧ (∀ (p : Prop) (x : Decidable p), decide p = false ↔ ¬p) ∧
    (∀ (α : Type) [BEq α] [LawfulBEq α] (a b : α), (a == b) = true ↔ a = b) ∧ (∀ (α : Type) [BEq α] [LawfulBEq α] (a b : α), (a == b) = false ↔ a ≠ b) ∧ (∀ (α : Type) [BEq α] [LawfulBEq α] (a b : α), (a != b) = true ↔ a ≠ b) ∧
    (∀ (α : Type) [BEq α] [LawfulBEq α] (a b : α), (a != b) = false ↔ a = b) ∧ (∀ (α : Type) (a b : α), (a ≠ b) = ¬a = b) ∧ (∀ (p : Prop) [Decidable p], ¬¬p ↔ p) ∧ ((!true) = false) ∧ (!false) = true :=
  ⟨Bool.and_eq_true, Bool.or_eq_true, Bool.not_eq_true', Bool.not_eq_false', fun _ _ => Bool.or_eq_false_iff, fun _ _ => Bool.and_eq_false_iff, fun _ _ => decide_eq_true_eq, fun _ _ => decide_eq_false_iff_not, fun _ _ _ _ _ => beq_iff_eq, fun _ _ _ _ _ => beq_eq_false_iff_ne,
    fun _ _ _ _ _ => bne_iff_ne, fun _ _ _ _ _ => bne_eq_false_iff_eq, fun _ a b => ne_eq a b, fun _ _ => Decidable.not_not, rfl, rfl⟩
abbrev xi (n : Int) : X := .v (.c (.i .i64 n))
abbrev xb (b : Bool) : X := .v (.c (.b b))
abbrev xs (l : List UInt8) : X := .v (.c (.s l))
theorem xi_eq {a b : Int} (h : a = b) : xi a = xi b := by rw [h]
theorem tx {x y : X} (h : x = y) : (true, x) = (true, y) := by rw [h]
theorem xb_eq {a b : Bool} (h : a = b) : xb a = xb b := by rw [h]
end Go.Proofs.YtiiboiomiacibaaDoor
/- Names: of the reference, and of formats. -/
set_option linter.unusedVariables false
set_option linter.unusedSimpArgs false
namespace Go.Proofs.YtiiboiomiacibaaDoor
open Go Go.Abs
abbrev xu (n : Int) : X := .v (.c (.i .u8 n))
def letterB (n : Int) : Bool := (decide (97 ≤ n) && decide (n ≤ 122)) || (decide (65 ≤ n) && decide (n ≤ 90))
def digitB (n : Int) : Bool := decide (48 ≤ n) && decide (n ≤ 57)
def partB (n : Int) : Bool := ((letterB n || digitB n) || n == 95) || n == 35
def nameB (l : List UInt8) : Bool := decide (l.length ≠ 0) && decide (l.length ≤ 24) && letterB ((l.getD 0 0).toNat : Int) && l.all fun b => partB (b.toNat : Int)
def noHash (l : List UInt8) : Bool := l.all fun b => (b.toNat : Int) != 35
/-- The name of a format. -/
def fnameB (l : List UInt8) : Bool := noHash l && nameB l
theorem drop_getD {α : Type} [Inhabited α] {l : List α} {k : Nat} (h : k < l.length) : l.drop k = l.getD k default :: l.drop (k + 1) := by
  rw [List.drop_eq_getElem_cons h, List.getD_eq_getElem?_getD, List.getElem?_eq_getElem h]; rfl
theorem drop_get0 {l : List UInt8} {k : Nat} (h : k < l.length) : l.drop k = l.getD k 0 :: l.drop (k + 1) := by
  rw [List.drop_eq_getElem_cons h, List.getD_eq_getElem?_getD, List.getElem?_eq_getElem h]; rfl
theorem all_get {l : List UInt8} {p : UInt8 → Bool} (h : ∀ j, j < l.length → p (l.getD j 0) = true) : l.all p = true := by
  rw [List.all_eq_true]
  intro x hx
  obtain ⟨j, hj⟩ := List.getElem?_of_mem hx
  have hlt := (List.getElem?_eq_some_iff.1 hj).1
  have := h j hlt
  rwa [List.getD_eq_getElem?_getD, hj] at this
theorem all_get_not {l : List UInt8} {p : UInt8 → Bool} {j : Nat} (hj : j < l.length) (h : p (l.getD j 0) = false) : l.all p = false := by
  rw [List.all_eq_false]
  refine ⟨l.getD j 0, ?_, by rw [h]; simp⟩
  rw [List.getD_eq_getElem?_getD, List.getElem?_eq_getElem hj]
  exact List.getElem_mem hj
theorem letter_spec (n : Int) : Ctr sys 57 [xu n] [] (xb (letterB n)) none [] := by
  refine spec_intro Tryd.func57 rfl rfl rfl rfl rfl rfl ?_
  refine awp_seq (awp_region ?_)
  refine al_pure rfl rfl rfl (pure_assign rfl gU) ?_
  refine al_nil ?_
  refine awp_seq (awp_region ?_)
  refine al_pure rfl rfl rfl (pure_move rfl gU) ?_
  refine al_pure rfl rfl rfl (pure_cmp rfl rfl gU gU rfl) ?_
  refine al_pure rfl rfl rfl (pure_move rfl gU) ?_
  refine al_pure rfl rfl rfl (pure_move rfl gU) ?_
  refine al_pure rfl rfl rfl (pure_cmp rfl rfl (fun hh => hh) gU rfl) ?_
  refine al_pure rfl rfl rfl (pure_and rfl rfl gU (fun _ hi => gP rfl hi)) ?_
  refine al_pure rfl rfl rfl (pure_move rfl gU) ?_
  refine al_pure rfl rfl rfl (pure_move rfl gU) ?_
  refine al_pure rfl rfl rfl (pure_cmp rfl rfl (fun hh => hh) gU rfl) ?_
  refine al_pure rfl rfl rfl (pure_move rfl (fun hh => hh)) ?_
  refine al_pure rfl rfl rfl (pure_move rfl gU) ?_
  refine al_pure rfl rfl rfl (pure_cmp rfl rfl (fun hh => hh) gU rfl) ?_
  refine al_pure rfl rfl rfl (pure_and rfl rfl (fun hh => hh) (fun hh hi => gP hh hi)) ?_
  refine al_pure rfl rfl rfl (pure_or rfl rfl gU (fun _ hi => gP rfl hi)) ?_
  refine al_pure rfl rfl rfl (pure_assign rfl gU) ?_
  refine al_nil ?_
  refine awp_ret ?_
  repeat (first | refine tR ?_ | refine bR ?_)
  refine ret_ok rfl ?_ trivial
  rfl
theorem digit_spec (n : Int) : Ctr sys 58 [xu n] [] (xb (digitB n)) none [] := by
  refine spec_intro Tryd.func58 rfl rfl rfl rfl rfl rfl ?_
  refine awp_seq (awp_region ?_)
  refine al_pure rfl rfl rfl (pure_assign rfl gU) ?_
  refine al_nil ?_
  refine awp_seq (awp_region ?_)
  refine al_pure rfl rfl rfl (pure_move rfl gU) ?_
  refine al_pure rfl rfl rfl (pure_cmp rfl rfl gU gU rfl) ?_
  refine al_pure rfl rfl rfl (pure_move rfl gU) ?_
  refine al_pure rfl rfl rfl (pure_move rfl gU) ?_
  refine al_pure rfl rfl rfl (pure_cmp rfl rfl (fun hh => hh) gU rfl) ?_
  refine al_pure rfl rfl rfl (pure_and rfl rfl gU (fun _ hi => gP rfl hi)) ?_
  refine al_pure rfl rfl rfl (pure_assign rfl gU) ?_
  refine al_nil ?_
  refine awp_ret ?_
  repeat (first | refine tR ?_ | refine bR ?_)
  refine ret_ok rfl ?_ trivial
  rfl
theorem isName_spec (l : List UInt8) : Ctr sys 38 [xs l] [] (xb (nameB l)) none [] := by
  refine spec_intro Tryd.func38 rfl rfl rfl rfl rfl rfl ?_
  refine awp_seq (awp_region ?_)
  refine al_pure rfl rfl rfl (pure_assign rfl gU) ?_
  refine al_nil ?_
  refine awp_seq ?_
  refine awp_seq (awp_region ?_)
  refine al_pure rfl rfl rfl (pure_move rfl gU) ?_
  refine al_lenS rfl rfl rfl rfl rfl gU (Tryd.underlying9) ?_ (fun hh => by simp at hh); intro hlen
  refine al_pure rfl rfl rfl (pure_cmp rfl rfl gU gU rfl) ?_
  refine al_pure rfl rfl rfl (pure_move rfl gU) ?_
  refine al_pure rfl rfl rfl (pure_move rfl gU) ?_
  refine al_pure rfl rfl rfl (pure_lenS rfl (fun hh => hh) (Tryd.underlying9)) ?_
  refine al_pure rfl rfl rfl (pure_cmp rfl rfl (fun hh => hh) gU rfl) ?_
  refine al_pure rfl rfl rfl (pure_or rfl rfl gU (fun _ hi => gP rfl hi)) ?_
  refine al_pure rfl rfl rfl (pure_move rfl gU) ?_
  refine al_pure rfl rfl rfl (pure_move rfl gU) ?_
  refine al_pure rfl rfl rfl (pure_indexSg (j := 0) rfl rfl (fun hh => hh) gU Tryd.underlying9 (by first | omega | (simp at hh; exact List.length_pos_iff.2 hh.1)) (fun hh => by first | omega | (simp at hh; exact List.length_pos_iff.2 hh.1))) ?_
  refine al_sub (s := { t := [(0, _, _), (12, _, _), (14, _, _)], bx := [], ow := [] }) (sub_mk (⟨sx rfl, ⟨sx rfl, ⟨sx rfl, trivial⟩⟩⟩) trivial trivial) ?_
  refine al_call rfl rfl rfl rfl rfl rfl gU (fun hh => gA ((fun hh => hh) hh) (rfl)) (letter_spec _) rfl ?_
  refine al_pure rfl rfl rfl (pure_not rfl (fun hh => hh)) ?_
  refine al_pure rfl rfl rfl (pure_or rfl rfl gU (fun _ hi => gP rfl hi)) ?_
  refine al_nil ?_
  refine awp_cond rfl (fun hc => ?_) (fun hc => ?_)
  · refine awp_seq (awp_region ?_)
    refine al_pure rfl rfl rfl (pure_assign rfl gU) ?_
    refine al_nil ?_
    refine awp_ret ?_
    repeat (first | refine tR ?_ | refine bR ?_)
    refine ret_ok rfl ?_ trivial
    exact xb_eq (by simp [nameB]; grind)
  · refine awp_skip ?_
    refine awp_seq ?_
    refine awp_seq (awp_region ?_)
    refine al_pure rfl rfl rfl (pure_assign rfl gU) ?_
    refine al_nil ?_
    refine awp_block ?_
    refine awp_for (ι := Nat) { t := [(0, _, _)], bx := [], ow := [] } (fun k => [(3, true, xi (k : Int))]) (fun k => []) (fun k => k ≤ l.length ∧ (l.drop k).all (fun b => partB (b.toNat : Int)) = l.all (fun b => partB (b.toNat : Int))) (fun k => l.length - k) (0) (by simp) (sub_mk (⟨sx rfl, ⟨sx rfl, trivial⟩⟩) trivial trivial) ?_
    intro k hok
    dsimp only [List.cons_append, List.nil_append]
    obtain ⟨hk, hi⟩ := hok
    refine awp_seq ?_
    refine awp_seq (awp_region ?_)
    refine al_pure rfl rfl rfl (pure_move rfl gU) ?_
    refine al_pure rfl rfl rfl (pure_move rfl gU) ?_
    refine al_lenS rfl rfl rfl rfl rfl gU (Tryd.underlying9) ?_ (fun hh => by simp at hh); intro hlen
    refine al_pure rfl rfl rfl (pure_cmp rfl rfl gU gU rfl) ?_
    refine al_nil ?_
    refine awp_cond rfl (fun hc2 => ?_) (fun hc2 => ?_)
    · have hlt : k < l.length := by simpa using hc2
      rw [drop_get0 hlt, List.all_cons] at hi
      refine awp_skip ?_
      refine awp_seq ?_
      refine awp_block ?_
      refine awp_seq (awp_region ?_)
      refine al_pure rfl rfl rfl (pure_move rfl gU) ?_
      refine al_pure rfl rfl rfl (pure_move rfl gU) ?_
      refine al_pure rfl rfl rfl (pure_indexSg rfl rfl gU gU Tryd.underlying9 rfl (fun hh => by first | omega | (simp at hh; exact List.length_pos_iff.2 hh.1))) ?_
      refine al_call rfl rfl rfl rfl rfl rfl gU gU (letter_spec _) rfl ?_
      refine al_pure rfl rfl rfl (pure_not rfl gU) ?_
      refine al_pure rfl rfl rfl (pure_move rfl gU) ?_
      refine al_pure rfl rfl rfl (pure_move rfl gU) ?_
      refine al_pure rfl rfl rfl (pure_move rfl gU) ?_
      refine al_sub (s := { t := [(0, _, _), (3, _, _), (29, _, _), (30, _, _), (31, _, _)], bx := [], ow := [] }) (sub_mk (⟨sx rfl, ⟨sx rfl, ⟨sx rfl, ⟨sx rfl, ⟨sx rfl, trivial⟩⟩⟩⟩⟩) trivial trivial) ?_
      refine al_pure rfl rfl rfl (pure_indexSg rfl rfl (fun hh => hh) (fun hh => hh) Tryd.underlying9 rfl (fun hh => by first | omega | (simp at hh; exact List.length_pos_iff.2 hh.1))) ?_
      refine al_call rfl rfl rfl rfl rfl rfl gU (fun hh => gA ((fun hh => hh) hh) (rfl)) (digit_spec _) rfl ?_
      refine al_pure rfl rfl rfl (pure_not rfl (fun hh => hh)) ?_
      refine al_pure rfl rfl rfl (pure_and rfl rfl gU (fun _ hi => gP rfl hi)) ?_
      refine al_pure rfl rfl rfl (pure_move rfl gU) ?_
      refine al_pure rfl rfl rfl (pure_move rfl gU) ?_
      refine al_pure rfl rfl rfl (pure_move rfl gU) ?_
      refine al_pure rfl rfl rfl (pure_indexSg rfl rfl (fun hh => hh) (fun hh => hh) Tryd.underlying9 rfl (fun hh => by first | omega | (simp at hh; exact List.length_pos_iff.2 hh.1))) ?_
      refine al_pure rfl rfl rfl (pure_cmp rfl rfl (fun hh => hh) gU rfl) ?_
      refine al_pure rfl rfl rfl (pure_and rfl rfl gU (fun _ hi => gP rfl hi)) ?_
      refine al_pure rfl rfl rfl (pure_move rfl gU) ?_
      refine al_pure rfl rfl rfl (pure_move rfl gU) ?_
      refine al_sub (s := { t := [(0, _, _), (3, _, _), (42, _, _), (43, _, _)], bx := [], ow := [] }) (sub_mk (⟨sx rfl, ⟨sx rfl, ⟨sx rfl, ⟨sx rfl, trivial⟩⟩⟩⟩) trivial trivial) ?_
      refine al_pure rfl rfl rfl (pure_move rfl gU) ?_
      refine al_pure rfl rfl rfl (pure_indexSg rfl rfl (fun hh => hh) (fun hh => hh) Tryd.underlying9 rfl (fun hh => by first | omega | (simp at hh; exact List.length_pos_iff.2 hh.1))) ?_
      refine al_pure rfl rfl rfl (pure_cmp rfl rfl (fun hh => hh) gU rfl) ?_
      refine al_pure rfl rfl rfl (pure_and rfl rfl gU (fun _ hi => gP rfl hi)) ?_
      refine al_nil ?_
      refine awp_cond rfl (fun hc1 => ?_) (fun hc1 => ?_)
      · try simp only [nn] at hc1
        refine awp_seq (awp_region ?_)
        refine al_pure rfl rfl rfl (pure_assign rfl gU) ?_
        refine al_nil ?_
        refine awp_ret ?_
        repeat (first | refine tR ?_ | refine bR ?_)
        refine ret_ok rfl ?_ trivial
        exact xb_eq (by simp [nameB]; grind [partB])
      · try simp only [nn] at hc1
        refine awp_skip ?_
        refine awp_region ?_
        refine al_pure rfl rfl rfl (pure_move rfl gU) ?_
        refine al_pure rfl rfl rfl (pure_arith rfl rfl gU gU rfl (IntWalk.i64_in _ (by omega))) ?_
        refine al_pure rfl rfl rfl (pure_assign rfl gU) ?_
        refine al_nil ?_
        refine ⟨k + 1, ?_, ?_, sub_mk (⟨⟨_, rfl, ?_⟩, ⟨sx rfl, trivial⟩⟩) trivial trivial⟩
        all_goals (grind [partB])
    · refine awp_exit ?_
      repeat (first | refine thenS_exit ?_ | refine blockS_hit ?_ | refine blockS_miss rfl ?_)
      refine awp_seq (awp_region ?_)
      refine al_pure rfl rfl rfl (pure_assign rfl gU) ?_
      refine al_nil ?_
      refine awp_ret ?_
      repeat (first | refine tR ?_ | refine bR ?_)
      refine ret_ok rfl ?_ trivial
      have : l.drop k = [] := by simp at hc2 ⊢; omega
      rw [this] at hi
      exact xb_eq (by simp [nameB]; grind)
end Go.Proofs.YtiiboiomiacibaaDoor
/- Lists of strings and numbers: as rows of cells (plain). -/
set_option linter.unusedVariables false
set_option linter.unusedSimpArgs false
namespace Go.Proofs.YtiiboiomiacibaaDoor
open Go Go.Abs
def strR (l : List (List UInt8)) : List (List C) := l.map fun s => [.s s]
theorem strR_len (l : List (List UInt8)) : (strR l).length = l.length := by simp [strR]
theorem strR_at {l : List (List UInt8)} {k : Nat} (h : k < l.length) : (strR l)[k]? = some [.s (l.getD k [])] := by
  rw [strR, List.getElem?_map, List.getD_eq_getElem?_getD, List.getElem?_eq_getElem h]; rfl
theorem strR_app (a b : List (List UInt8)) : strR (a ++ b) = strR a ++ strR b := by simp [strR]
abbrev xss (l : List (List UInt8)) : X := .v (.c (.sl 1 (strR l)))
def intR (l : List Int) : List (List C) := l.map fun n => [.i .i64 n]
theorem intR_len (l : List Int) : (intR l).length = l.length := by simp [intR]
theorem intR_at {l : List Int} {k : Nat} (h : k < l.length) : (intR l)[k]? = some [.i .i64 (l.getD k 0)] := by
  rw [intR, List.getElem?_map, List.getD_eq_getElem?_getD, List.getElem?_eq_getElem h]; rfl
theorem intR_app (a b : List Int) : intR (a ++ b) = intR a ++ intR b := by simp [intR]
abbrev xis (l : List Int) : X := .v (.c (.sl 1 (intR l)))
theorem bytesR_at {l : List UInt8} {k : Nat} (h : k < l.length) : (bytesR l)[k]? = some [.i .u8 ((l.getD k 0).toNat : Int)] := by
  rw [bytesR, List.getElem?_map, List.getD_eq_getElem?_getD, List.getElem?_eq_getElem h]; rfl
abbrev xbs (l : List UInt8) : X := .v (.c (.sl 1 (bytesR l)))
theorem xss_snoc (l : List (List UInt8)) (s : List UInt8) : X.v (.c (.sl 1 (strR l ++ [[.s s]]))) = xss (l ++ [s]) := by simp [xss, strR]
theorem xis_snoc (l : List Int) (n : Int) : X.v (.c (.sl 1 (intR l ++ [[.i .i64 n]]))) = xis (l ++ [n]) := by simp [xis, intR]
theorem xbs_snoc (l : List UInt8) (b : UInt8) (n : Int) (h : (b.toNat : Int) = n) : X.v (.c (.sl 1 (bytesR l ++ [[.i .u8 n]]))) = xbs (l ++ [b]) := by simp [xbs, bytesR, h]
theorem getD_take {α : Type} (l : List α) (d : α) {j k : Nat} (h : j < k) : (l.take k).getD j d = l.getD j d := by
  simp only [List.getD_eq_getElem?_getD]; rw [List.getElem?_take, if_pos h]
theorem getD_drop {α : Type} (l : List α) (d : α) (j k : Nat) : (l.drop k).getD j d = l.getD (k + j) d := by
  simp only [List.getD_eq_getElem?_getD]; rw [List.getElem?_drop]
theorem take_getD {α : Type} {l : List α} {d : α} {k : Nat} (h : k < l.length) : l.take (k + 1) = l.take k ++ [l.getD k d] := by
  rw [List.take_add_one, List.getD_eq_getElem?_getD, List.getElem?_eq_getElem h]; rfl
theorem dropD {α : Type} {l : List α} {d : α} {k : Nat} (h : k < l.length) : l.drop k = l.getD k d :: l.drop (k + 1) := by
  rw [List.drop_eq_getElem_cons h, List.getD_eq_getElem?_getD, List.getElem?_eq_getElem h]; rfl
/-- The parts of a string between separators, as the loop goes. -/
def splitF (s sep : List UInt8) : Nat → Nat → Nat → List (List UInt8) → List (List UInt8)
  | 0, _, b, out => out ++ [s.drop b]
  | n + 1, i, b, out => if i + sep.length ≤ s.length then
      (if b ≤ i ∧ (s.take (i + sep.length)).drop i = sep then splitF s sep n (i + 1) (i + sep.length) (out ++ [(s.take i).drop b]) else splitF s sep n (i + 1) b out)
    else out ++ [s.drop b]
def splitE (s sep : List UInt8) : List (List UInt8) := splitF s sep (s.length + 1) 0 0 []
theorem splitF_one (s sep : List UInt8) : ∀ (n i b : Nat) (out : List (List UInt8)), out.length + 1 ≤ (splitF s sep n i b out).length ∧ (splitF s sep n i b out).length ≤ out.length + n + 1
  | 0, _, _, out => by simp [splitF]
  | n + 1, i, b, out => by
    rw [splitF]
    split
    · split
      · have := splitF_one s sep n (i + 1) (i + sep.length) (out ++ [(s.take i).drop b]); simp at this; omega
      · have := splitF_one s sep n (i + 1) b out; omega
    · simp
theorem splitF_mem (s sep : List UInt8) : ∀ (n i b : Nat) (out : List (List UInt8)), (∀ x ∈ out, x.length ≤ s.length) → ∀ x ∈ splitF s sep n i b out, x.length ≤ s.length
  | 0, _, b, out, h, x, hx => by
    rw [splitF] at hx
    rcases List.mem_append.1 hx with hx | hx
    · exact h x hx
    · simp at hx; subst hx; simp
  | n + 1, i, b, out, h, x, hx => by
    rw [splitF] at hx
    split at hx
    · split at hx
      · refine splitF_mem s sep n _ _ _ (fun y hy => ?_) x hx
        rcases List.mem_append.1 hy with hy | hy
        · exact h y hy
        · simp at hy; subst hy; simp; omega
      · exact splitF_mem s sep n _ _ _ h x hx
    · rcases List.mem_append.1 hx with hx | hx
      · exact h x hx
      · simp at hx; subst hx; simp
theorem splitE_len (s sep : List UInt8) : 1 ≤ (splitE s sep).length ∧ (splitE s sep).length ≤ s.length + 2 := by
  have := splitF_one s sep (s.length + 1) 0 0 []; simp at this; unfold splitE; omega
theorem splitE_get (s sep : List UInt8) (k : Nat) : ((splitE s sep).getD k []).length ≤ s.length := by
  rw [List.getD_eq_getElem?_getD]
  cases h : (splitE s sep)[k]? with
  | none => simp
  | some x => exact splitF_mem s sep _ _ _ _ (by simp) x (List.mem_of_getElem? h)
/-- Hexadecimal digits. -/
def hexB (b : UInt8) : Bool := (decide (48 ≤ (b.toNat : Int)) && decide ((b.toNat : Int) ≤ 57)) || (decide (97 ≤ (b.toNat : Int)) && decide ((b.toNat : Int) ≤ 102))
def hexV (b : UInt8) : Int := if (b.toNat : Int) ≤ 57 then b.toNat - 48 else b.toNat - 87
def unhexF : List UInt8 → List UInt8 → List UInt8 × Bool
  | a :: b :: l, out => if hexB a = true ∧ hexB b = true then unhexF l (out ++ [UInt8.ofNat (16 * hexV a + hexV b).toNat]) else ([], false)
  | [_], out => (out, false)
  | [], out => (out, true)
def numF : Int → List UInt8 → Int
  | n, [] => n
  | n, b :: l => if (b.toNat : Int) < 48 ∨ 57 < (b.toNat : Int) then -1 else numF (10 * n + (b.toNat - 48)) l
def numE (s : List UInt8) : Int := if s.length = 0 ∨ 6 < s.length ∨ (1 < s.length ∧ (s.getD 0 0).toNat = 48) then -1 else numF 0 s
def pw10 (k : Nat) : Int := 10 ^ k
theorem pw10_succ (k : Nat) : pw10 (k + 1) = 10 * pw10 k := by simp [pw10, Int.pow_succ, Int.mul_comm]
theorem pw10_le {k : Nat} (h : k ≤ 6) : 1 ≤ pw10 k ∧ pw10 k ≤ 1000000 := by
  match k, h with
  | 0, _ => decide
  | 1, _ => decide
  | 2, _ => decide
  | 3, _ => decide
  | 4, _ => decide
  | 5, _ => decide
  | 6, _ => decide
end Go.Proofs.YtiiboiomiacibaaDoor
/- Tokens: as data, and what both sides compute (plain). -/
set_option linter.unusedVariables false
set_option linter.unusedSimpArgs false
namespace Go.Proofs.YtiiboiomiacibaaDoor
open Go Go.Abs
structure Tk where
  kind : Int
  text : List UInt8
  int : Int
  str : List UInt8
  line : Int
  deriving Inhabited, DecidableEq
def Tk.onl (t : Tk) (k : Int) : Tk := ⟨t.kind, t.text, t.int, t.str, k⟩
def tk0 : Tk := ⟨0, [], 0, [], 0⟩
def Tk.cells (t : Tk) : List C := [.i .i64 t.kind, .s t.text, .i .i64 t.int, .s t.str, .i .i64 t.line]
def Tk.rows (l : List Tk) : List (List C) := l.map Tk.cells
theorem Tk.rows_len (l : List Tk) : (Tk.rows l).length = l.length := by simp [Tk.rows]
theorem Tk.rows_at {l : List Tk} {k : Nat} (h : k < l.length) : (Tk.rows l)[k]? = some (l.getD k tk0).cells := by
  rw [Tk.rows, List.getElem?_map, List.getD_eq_getElem?_getD, List.getElem?_eq_getElem h]; rfl
theorem Tk.rows_app (a b : List Tk) : Tk.rows (a ++ b) = Tk.rows a ++ Tk.rows b := by simp [Tk.rows]
abbrev xts (l : List Tk) : X := .v (.c (.sl 5 (Tk.rows l)))
theorem xts_snoc (l : List Tk) (t : Tk) : X.v (.c (.sl 5 (Tk.rows l ++ [t.cells]))) = xts (l ++ [t]) := by simp [xts, Tk.rows]
abbrev xt (t : Tk) : X := .v (.agg t.cells)
theorem agg_eq {t u : Tk} (h : t = u) : X.v (.agg t.cells) = xt u := by rw [h]
abbrev xnx (r : Tk × Nat × Int) : X := .tup [.agg r.1.cells, .c (.i .i64 (r.2.1 : Int)), .c (.i .i64 r.2.2)]
abbrev xtoks (r : List Tk × Nat × Int) : X := .tup [.c (.sl 5 (Tk.rows r.1)), .c (.i .i64 (r.2.1 : Int)), .c (.i .i64 r.2.2)]
abbrev xsn (r : List UInt8 × Nat) : X := .tup [.c (.s r.1), .c (.i .i64 (r.2 : Int))]
abbrev xse (r : List UInt8 × Int) : X := .tup [.c (.s r.1), .c (.i .i64 r.2)]
/-- Classes of bytes. -/
def whiteB (c : UInt8) : Bool := decide (c.toNat = 32) || decide (c.toNat = 9) || decide (c.toNat = 10) || decide (c.toNat = 13)
def syms : List UInt8 := [40, 41, 123, 125, 91, 93, 44, 59, 58, 61, 46, 45, 62, 60, 63, 124, 38, 42]
def symB (c : UInt8) : Bool := syms.contains c
def clsE (c : UInt8) : Int := if whiteB c = true then 1 else if letterB c.toNat = true then 2 else if digitB c.toNat = true then 3 else if c.toNat = 34 then 5 else if symB c = true then 4 else 0
/-- What stands behind a backslash, and how many bytes it takes. -/
def escE : List UInt8 → UInt8 × Nat
  | [] => (0, 0)
  | c :: l => if c.toNat = 110 then (10, 1) else if c.toNat = 116 then (9, 1) else if c.toNat = 34 ∨ c.toNat = 92 then (c, 1)
    else if c.toNat = 120 ∧ 2 ≤ l.length ∧ hexB (l.getD 0 0) = true ∧ hexB (l.getD 1 0) = true then (UInt8.ofNat (16 * hexV (l.getD 0 0) + hexV (l.getD 1 0)).toNat, 3) else (0, 0)
/-- The rest of a literal: what it means, and where it ends. -/
def litA : Nat → List UInt8 → Nat → List UInt8 → List UInt8 × Nat
  | 0, _, _, _ => ([], 0)
  | _ + 1, [], _, _ => ([], 0)
  | n + 1, c :: l, i, out => if c.toNat = 34 then (out, i + 1)
    else if c.toNat = 92 then (if (escE l).2 = 0 then ([], 0) else litA n (l.drop (escE l).2) (i + 1 + (escE l).2) (out ++ [(escE l).1]))
    else if c.toNat < 32 ∨ 126 < c.toNat then ([], 0) else litA n l (i + 1) (out ++ [c])
def litE (s : List UInt8) : List UInt8 × Nat := litA (s.length + 1) (s.drop 1) 1 []
/-- The length of a name, behind its first byte: as the program goes. -/
def nmP : List UInt8 → Nat
  | [] => 0
  | b :: l => if partB (b.toNat : Int) = true ∧ ¬(b.toNat = 35 ∧ (l.getD 0 0).toNat = 35) then nmP l + 1 else 0
def nlE (s : List UInt8) : Nat := 1 + nmP (s.drop 1)
/-- As the reference goes. -/
def wdN : List UInt8 → Nat
  | [] => 0
  | b :: l => if partB (b.toNat : Int) = true then wdN l + 1 else 0
/-- Digits: whether the number is small enough, how many they are, the number. -/
def numA : List UInt8 → Nat → Int → Bool × Nat × Int
  | [], n, v => (true, n, v)
  | b :: l, n, v => if digitB (b.toNat : Int) = true then (if (9223372036854775807 - ((b.toNat : Int) - 48)) / 10 < v then (false, 0, 0) else numA l (n + 1) (10 * v + ((b.toNat : Int) - 48))) else (true, n, v)
def nextE (s : List UInt8) : Tk × Nat × Int :=
  if letterB (s.getD 0 0).toNat = true then (if 24 < nlE s then (tk0, 0, 3) else (⟨1, s.take (nlE s), 0, [], 0⟩, nlE s, 0))
  else if digitB (s.getD 0 0).toNat = true then (if (numA s 0 0).1 = true then (⟨2, [], (numA s 0 0).2.2, [], 0⟩, (numA s 0 0).2.1, 0) else (tk0, 0, 7))
  else if (s.getD 0 0).toNat = 34 then (if (litE s).2 = 0 then (tk0, 0, 2) else (⟨3, [], 0, (litE s).1, 0⟩, (litE s).2, 0))
  else if symB (s.getD 0 0) = true then (⟨4, s.take 1, 0, [], 0⟩, 1, 0) else (tk0, 0, 2)
def firstE (s : List UInt8) (k : Int) : Tk × Nat × Int :=
  if letterB (s.getD 0 0).toNat = true then (if 24 < wdN s then (tk0, 0, 3) else (⟨1, s.take (wdN s), 0, [], k⟩, wdN s, 0))
  else if digitB (s.getD 0 0).toNat = true then (if (numA s 0 0).1 = true then (⟨2, [], (numA s 0 0).2.2, [], k⟩, (numA s 0 0).2.1, 0) else (tk0, 0, 7))
  else if (s.getD 0 0).toNat = 34 then (if (litE s).2 = 0 then (tk0, 0, 2) else (⟨3, [], 0, (litE s).1, k⟩, (litE s).2, 0))
  else if symB (s.getD 0 0) = true then (⟨4, s.take 1, 0, [], k⟩, 1, 0) else (tk0, 0, 2)
/-- How much of a line stands ahead of its comment. -/
def bareN : Bool → List UInt8 → Nat
  | _, [] => 0
  | _, [_] => 1
  | ins, c :: d :: l => if ins = true ∧ c.toNat = 92 then bareN true l + 2
    else if (if c.toNat = 34 then !ins else ins) = false ∧ c.toNat = 35 ∧ d.toNat = 35 then 0 else bareN (if c.toNat = 34 then !ins else ins) (d :: l) + 1
def bareE (s : List UInt8) : List UInt8 := s.take (bareN false s)
/-- The tokens of a line: as the program goes; as the reference goes. -/
def wsp : List UInt8 := [32, 9, 13]
def trimE (s : List UInt8) : List UInt8 := s.dropWhile (wsp.contains ·)
def lineP : Nat → List UInt8 → Int → List Tk → List Tk × Int
  | 0, _, _, out => (out, 0)
  | n + 1, l, k, out => if trimE l = [] ∨ [35, 35].isPrefixOf (trimE l) = true then (out, 0)
    else if (nextE (trimE l)).2.2 ≠ 0 then ([], (nextE (trimE l)).2.2)
    else lineP n ((trimE l).drop (nextE (trimE l)).2.1) k (out ++ [(nextE (trimE l)).1.onl k])
def lineR : Nat → List UInt8 → Int → List Tk → List Tk × Int
  | 0, _, _, out => (out, 0)
  | _ + 1, [], _, out => (out, 0)
  | n + 1, c :: l, k, out => if whiteB c = true then lineR n l k out else if (firstE (c :: l) k).2.2 ≠ 0 then ([], (firstE (c :: l) k).2.2)
    else lineR n ((c :: l).drop (firstE (c :: l) k).2.1) k (out ++ [(firstE (c :: l) k).1])
/-- The lines of a text. -/
def spl : List UInt8 → List (List UInt8)
  | [] => [[]]
  | b :: l => if b.toNat = 10 then [] :: spl l else match spl l with
    | [] => [[b]]
    | x :: r => (b :: x) :: r
def toksP : List (List UInt8) → Nat → List Tk → List Tk × Nat × Int
  | [], _, out => (out, 0, 0)
  | l :: ls, k, out => if (lineP (l.length + 1) l (k : Nat) out).2 ≠ 0 then ([], k, (lineP (l.length + 1) l (k : Nat) out).2) else toksP ls (k + 1) (lineP (l.length + 1) l (k : Nat) out).1
def toksR : List (List UInt8) → Nat → List Tk → List Tk × Nat × Int
  | [], _, out => (out, 0, 0)
  | l :: ls, k, out => if (lineR ((bareE l).length + 1) (bareE l) (k : Nat) out).2 ≠ 0 then ([], k, (lineR ((bareE l).length + 1) (bareE l) (k : Nat) out).2) else toksR ls (k + 1) (lineR ((bareE l).length + 1) (bareE l) (k : Nat) out).1
def tokP (s : List UInt8) : List Tk × Nat × Int := if 65536 < s.length then ([], 0, 3) else toksP (spl s) 1 []
def lnsA : List UInt8 → List UInt8 → List (List UInt8) → List (List UInt8)
  | [], line, out => if line = [] then out else out ++ [line]
  | b :: l, line, out => if b.toNat = 10 then lnsA l [] (out ++ [line]) else lnsA l (line ++ [b]) out
def lnsR (s : List UInt8) : List (List UInt8) := lnsA s [] []
def tokR (s : List UInt8) : List Tk × Nat × Int := if 65536 < s.length then ([], 0, 3) else toksR (lnsR s) 1 []
/-- Literals of strings. -/
def hexs : List UInt8 := [48, 49, 50, 51, 52, 53, 54, 55, 56, 57, 97, 98, 99, 100, 101, 102]
def quo1 (c : UInt8) : List UInt8 := if c.toNat = 10 then [92, 110] else if c.toNat = 9 then [92, 116] else if c.toNat = 34 ∨ c.toNat = 92 then [92, c] else if 32 ≤ c.toNat ∧ c.toNat ≤ 126 then [c]
  else [92, 120] ++ (hexs.take (c.toNat / 16 + 1)).drop (c.toNat / 16) ++ (hexs.take (c.toNat % 16 + 1)).drop (c.toNat % 16)
def quoB : List UInt8 → List UInt8
  | [] => []
  | c :: l => quo1 c ++ quoB l
def quoE (s : List UInt8) : List UInt8 := [34] ++ quoB s ++ [34]
def unqE (s : List UInt8) : List UInt8 × Int := if s = [] ∨ (s.getD 0 0).toNat ≠ 34 then ([], 2) else if (litE s).2 ≠ s.length then ([], 2) else ((litE s).1, 0)
/-- The texts of tokens. -/
def wordE (t : Tk) : List UInt8 := if t.kind = 1 ∨ t.kind = 4 then t.text else if t.kind = 3 then quoE t.str else if t.kind = 2 ∧ 0 ≤ t.int then Lib.decDigits t.int.toNat else []
def joinA : List Tk → Nat → List UInt8 → List UInt8
  | [], _, out => out
  | t :: l, k, out => joinA l (k + 1) ((if 0 < k then out ++ [32] else out) ++ wordE t)
def joinE (l : List Tk) : List UInt8 := joinA l 0 []
/-- Facts on lengths. -/
theorem quo1_len (c : UInt8) : 1 ≤ (quo1 c).length ∧ (quo1 c).length ≤ 4 := by
  have hc : c.toNat < 256 := c.toNat_lt
  have h16 : hexs.length = 16 := rfl
  unfold quo1
  repeat' split
  all_goals simp [h16]
  all_goals omega
theorem quoB_len : ∀ (s : List UInt8), s.length ≤ (quoB s).length ∧ (quoB s).length ≤ 4 * s.length
  | [] => by simp [quoB]
  | c :: l => by
    have := quoB_len l
    have := quo1_len c
    simp only [quoB, List.length_append, List.length_cons]
    omega
theorem quoB_snoc : ∀ (a : List UInt8) (c : UInt8), quoB (a ++ [c]) = quoB a ++ quo1 c
  | [], c => by simp [quoB]
  | b :: a, c => by simp [quoB, quoB_snoc a c]
theorem escE_le (l : List UInt8) : (escE l).2 ≤ l.length := by
  cases l with
  | nil => simp [escE]
  | cons c l =>
    rw [escE]
    split
    · simp
    split
    · simp
    split
    · simp
    split
    · rename_i h; simp only [List.length_cons]; omega
    · simp
theorem litA_le : ∀ (n : Nat) (l : List UInt8) (i : Nat) (out : List UInt8), (litA n l i out).2 ≤ i + l.length ∧ ((litA n l i out).2 ≠ 0 → i < (litA n l i out).2) ∧ (litA n l i out).1.length ≤ out.length + l.length
  | 0, l, i, out => by simp [litA]
  | n + 1, [], i, out => by simp [litA]
  | n + 1, c :: l, i, out => by
    have he := escE_le l
    unfold litA
    split
    · simp <;> omega
    split
    · split
      · simp
      · have := litA_le n (l.drop (escE l).2) (i + 1 + (escE l).2) (out ++ [(escE l).1])
        simp only [List.length_drop, List.length_append, List.length_cons, List.length_nil] at this ⊢
        omega
    split
    · simp
    · have := litA_le n l (i + 1) (out ++ [c])
      simp only [List.length_append, List.length_cons, List.length_nil] at this ⊢
      omega
theorem litE_le (s : List UInt8) (h : 0 < s.length) : (litE s).2 ≤ s.length ∧ (litE s).1.length ≤ s.length := by
  have := litA_le (s.length + 1) (s.drop 1) 1 []
  simp only [List.length_drop, List.length_nil] at this
  unfold litE
  omega
theorem nmP_le : ∀ (l : List UInt8), nmP l ≤ l.length
  | [] => by simp [nmP]
  | b :: l => by
    have := nmP_le l
    unfold nmP
    split <;> simp <;> omega
theorem nlE_le {s : List UInt8} (h : 0 < s.length) : 1 ≤ nlE s ∧ nlE s ≤ s.length := by
  have := nmP_le (s.drop 1)
  simp only [List.length_drop] at this
  unfold nlE; omega
theorem wdN_le : ∀ (l : List UInt8), wdN l ≤ l.length
  | [] => by simp [wdN]
  | b :: l => by
    have := wdN_le l
    unfold wdN
    split <;> simp <;> omega
theorem numA_le : ∀ (l : List UInt8) (n : Nat) (v : Int), 0 ≤ v → (numA l n v).2.1 ≤ n + l.length ∧ ((numA l n v).1 = true → n ≤ (numA l n v).2.1) ∧ 0 ≤ (numA l n v).2.2 ∧ (v ≤ 9223372036854775807 → (numA l n v).2.2 ≤ 9223372036854775807)
  | [], n, v, h => by simp [numA, h]
  | b :: l, n, v, h => by
    unfold numA
    split
    · rename_i hd
      simp [digitB] at hd
      split
      · simp
      · obtain ⟨q1, q2, q3, q4⟩ := numA_le l (n + 1) (10 * v + ((b.toNat : Int) - 48)) (by omega)
        simp only [List.length_cons]
        exact ⟨by omega, fun q => by have := q2 q; omega, q3, fun q => q4 (by omega)⟩
    · simp [h]
theorem nextE_le {s : List UInt8} (h : 0 < s.length) : (nextE s).2.1 ≤ s.length ∧ ((nextE s).2.2 = 0 → 1 ≤ (nextE s).2.1) := by
  have h1 := nlE_le h
  have h2 := numA_le s 0 0 (by omega)
  have h3 := litE_le s h
  have h4 := litA_le (s.length + 1) (s.drop 1) 1 []
  unfold nextE
  split
  · split
    · simp
    · simp; omega
  split
  · rename_i hd
    split
    · rename_i hn
      refine ⟨by dsimp only; omega, fun _ => ?_⟩
      dsimp only
      match s, h with
      | b :: l, _ =>
        rw [List.getD_cons_zero] at hd
        rw [numA, if_pos hd] at hn ⊢
        split at hn
        · simp at hn
        · rename_i hq
          rw [if_neg hq]
          have hd2 : (48 : Int) ≤ (b.toNat : Int) := by simp [digitB] at hd; omega
          have := (numA_le l (0 + 1) (10 * 0 + ((b.toNat : Int) - 48)) (by omega)).2.1 hn
          omega
    · simp
  split
  · split
    · simp
    · simp; omega
  split
  · simp; omega
  · simp
theorem firstE_le {s : List UInt8} {k : Int} (h : 0 < s.length) : (firstE s k).2.1 ≤ s.length ∧ ((firstE s k).2.2 = 0 → 1 ≤ (firstE s k).2.1) := by
  have h0 := nextE_le h
  have h1 := wdN_le s
  have hw : letterB (s.getD 0 0).toNat = true → 1 ≤ wdN s := by
    intro hl
    match s, h with
    | b :: l, _ =>
      rw [List.getD_cons_zero] at hl
      rw [wdN, if_pos (by simp [partB, hl])]; omega
  unfold firstE
  unfold nextE at h0
  split
  · rename_i hl
    have := hw hl
    split
    · simp
    · simp; omega
  · rename_i hl
    rw [if_neg hl] at h0
    split
    · rename_i hd
      rw [if_pos hd] at h0
      split
      · rename_i hn; rw [if_pos hn] at h0; exact h0
      · simp
    · rename_i hd
      rw [if_neg hd] at h0
      split
      · rename_i hq
        rw [if_pos hq] at h0
        split
        · simp
        · rename_i hz; rw [if_neg hz] at h0; exact h0
      · rename_i hq
        rw [if_neg hq] at h0
        split
        · rename_i hz; rw [if_pos hz] at h0; exact h0
        · simp
theorem trimE_len (s : List UInt8) : (trimE s).length ≤ s.length := by
  unfold trimE
  exact (List.dropWhile_sublist _).length_le
theorem spl_ne (s : List UInt8) : spl s ≠ [] := by
  cases s with
  | nil => simp [spl]
  | cons b l =>
    unfold spl
    split
    · simp
    · split <;> simp
theorem spl_len : ∀ (s : List UInt8), (spl s).length ≤ s.length + 1
  | [] => by simp [spl]
  | b :: l => by
    have ih := spl_len l
    unfold spl
    split
    · simp; omega
    · split
      · simp
      · rename_i h; rw [h] at ih; simp at ih ⊢; omega
theorem spl_mem : ∀ (s : List UInt8), ∀ x ∈ spl s, x.length ≤ s.length
  | [], x, hx => by simp [spl] at hx; subst hx; simp
  | b :: l, x, hx => by
    have ih := spl_mem l
    unfold spl at hx
    split at hx
    · rcases List.mem_cons.1 hx with h | h
      · subst h; simp
      · have := ih x h; simp; omega
    · split at hx
      · simp at hx; subst hx; simp
      · rename_i y r h
        rw [h] at ih
        rcases List.mem_cons.1 hx with q | q
        · subst q
          have := ih y (by simp)
          simp; omega
        · have := ih x (by simp [q]); simp; omega
theorem spl_get (s : List UInt8) (k : Nat) : ((spl s).getD k []).length ≤ s.length := by
  rw [List.getD_eq_getElem?_getD]
  cases h : (spl s)[k]? with
  | none => simp
  | some x => exact spl_mem s x (List.mem_of_getElem? h)
theorem lnsA_len : ∀ (s line : List UInt8) (out : List (List UInt8)), (lnsA s line out).length ≤ out.length + s.length + 1
  | [], line, out => by unfold lnsA; split <;> simp
  | b :: l, line, out => by
    unfold lnsA
    split
    · have := lnsA_len l [] (out ++ [line]); simp at this ⊢; omega
    · have := lnsA_len l (line ++ [b]) out; simp at this ⊢; omega
theorem lnsA_mem : ∀ (s line : List UInt8) (out : List (List UInt8)) (N : Nat), line.length + s.length ≤ N → (∀ x ∈ out, x.length ≤ N) → ∀ x ∈ lnsA s line out, x.length ≤ N
  | [], line, out, N, h, ho, x, hx => by
    unfold lnsA at hx
    split at hx
    · exact ho x hx
    · rcases List.mem_append.1 hx with q | q
      · exact ho x q
      · simp at q; subst q; simp at h; omega
  | b :: l, line, out, N, h, ho, x, hx => by
    simp only [List.length_cons] at h
    unfold lnsA at hx
    split at hx
    · refine lnsA_mem l [] (out ++ [line]) N (by simp; omega) (fun y hy => ?_) x hx
      rcases List.mem_append.1 hy with q | q
      · exact ho y q
      · simp at q; subst q; omega
    · exact lnsA_mem l (line ++ [b]) out N (by simp; omega) ho x hx
theorem lnsR_get (s : List UInt8) (k : Nat) : ((lnsR s).getD k []).length ≤ s.length := by
  rw [List.getD_eq_getElem?_getD]
  cases h : (lnsR s)[k]? with
  | none => simp
  | some x => exact lnsA_mem s [] [] s.length (by simp) (by simp) x (List.mem_of_getElem? h)
theorem lnsR_len (s : List UInt8) : (lnsR s).length ≤ s.length + 1 := by
  have := lnsA_len s [] []; simp at this; exact this
end Go.Proofs.YtiiboiomiacibaaDoor
/- Contracts of library functions: how this program's functions lie to the library's (written by the kit's tool). -/
namespace Go.Proofs.YtiiboiomiacibaaDoor
open Go Go.Proofs Go.Shelf
def laysM146_ren : Go.Shelf.Ren := ⟨fun | 146 => 29 | 221 => 47 | 268 => 63 | 138 => 64 | 143 => 65 | 195 => 76 | 197 => 67 | 218 => 77 | 219 => 78 | 260 => 79 | 217 => 69 | 225 => 88 | 224 => 89 | 267 => 90 | 266 => 81 | 314 => 94 | n => n, fun | 9 => 9 | 31 => 29 | 3 => 3 | 4 => 4 | 0 => 0 | 105 => 83 | 21 => 21 | 5 => 5 | 46 => 59 | 119 => 104 | 139 => 107 | 138 => 106 | 146 => 110 | 51 => 99 | n => n, fun | 1 => 1 | 3 => 2 | 4 => 3 | n => n⟩
theorem laysM146 : Go.Proofs.LaysM.n146 Tryd.prog laysM146_ren := {
  mixed := by kernel_rfl
  f138 := Tryd.func64.trans (congrArg some (by kernel_rfl))
  f143 := Tryd.func65.trans (congrArg some (by kernel_rfl))
  f146 := Tryd.func29.trans (congrArg some (by kernel_rfl))
  f195 := Tryd.func76.trans (congrArg some (by kernel_rfl))
  f197 := Tryd.func67.trans (congrArg some (by kernel_rfl))
  f217 := Tryd.func69.trans (congrArg some (by kernel_rfl))
  f218 := Tryd.func77.trans (congrArg some (by kernel_rfl))
  f219 := Tryd.func78.trans (congrArg some (by kernel_rfl))
  f221 := Tryd.func47.trans (congrArg some (by kernel_rfl))
  f224 := Tryd.func89.trans (congrArg some (by kernel_rfl))
  f225 := Tryd.func88.trans (congrArg some (by kernel_rfl))
  f260 := Tryd.func79.trans (congrArg some (by kernel_rfl))
  f266 := Tryd.func81.trans (congrArg some (by kernel_rfl))
  f267 := Tryd.func90.trans (congrArg some (by kernel_rfl))
  f268 := Tryd.func63.trans (congrArg some (by kernel_rfl))
  f314 := Tryd.func94.trans (congrArg some (by kernel_rfl))
  t0 := Tryd.underlying0
  a0 := Tryd.isAgg0
  z0 := Tryd.sizeOf0
  v0 := Tryd.zeroValue0
  t3 := Tryd.underlying3
  a3 := Tryd.isAgg3
  z3 := Tryd.sizeOf3
  v3 := Tryd.zeroValue3
  t4 := Tryd.underlying4
  a4 := Tryd.isAgg4
  z4 := Tryd.sizeOf4
  v4 := Tryd.zeroValue4
  t5 := Tryd.underlying5
  a5 := Tryd.isAgg5
  z5 := Tryd.sizeOf5
  v5 := Tryd.zeroValue5
  t9 := Tryd.underlying9
  a9 := Tryd.isAgg9
  z9 := Tryd.sizeOf9
  v9 := Tryd.zeroValue9
  t21 := Tryd.underlying21
  a21 := Tryd.isAgg21
  z21 := Tryd.sizeOf21
  v21 := Tryd.zeroValue21
  t31 := Tryd.underlying29
  a31 := Tryd.isAgg29
  z31 := Tryd.sizeOf29
  v31 := Tryd.zeroValue29
  t46 := Tryd.underlying59
  a46 := Tryd.isAgg59
  z46 := Tryd.sizeOf59
  v46 := Tryd.zeroValue59
  t51 := Tryd.underlying99
  a51 := Tryd.isAgg99
  z51 := Tryd.sizeOf99
  v51 := Tryd.zeroValue99
  t105 := Tryd.underlying83
  a105 := Tryd.isAgg83
  z105 := Tryd.sizeOf83
  v105 := Tryd.zeroValue83
  t119 := Tryd.underlying104
  a119 := Tryd.isAgg104
  z119 := Tryd.sizeOf104
  t138 := Tryd.underlying106
  a138 := Tryd.isAgg106
  z138 := Tryd.sizeOf106
  v138 := Tryd.zeroValue106
  t139 := Tryd.underlying107
  a139 := Tryd.isAgg107
  z139 := Tryd.sizeOf107
  v139 := Tryd.zeroValue107
  t146 := Tryd.underlying110
  a146 := Tryd.isAgg110
  z146 := Tryd.sizeOf110
  v146 := Tryd.zeroValue110
  g1 := by kernel_rfl
  g3 := by kernel_rfl
  g4 := by kernel_rfl
  i0 := by kernel_rfl
  i3 := by kernel_rfl
  i4 := by kernel_rfl
  i5 := by kernel_rfl
  i9 := by kernel_rfl
  i21 := by kernel_rfl
  i31 := by kernel_rfl
  i46 := by kernel_rfl
  i51 := by kernel_rfl
  i105 := by kernel_rfl
  i138 := by kernel_rfl
  i139 := by kernel_rfl
  i146 := by kernel_rfl
  m1 := by kernel_rfl
  s1_3 := fun w h => Go.Proofs.cell_of_shapedOpen_int (zero := #[.int .i64 0]) (t := 3) h (of_decide_eq_true (by kernel_rfl)) (by kernel_rfl) rfl (by kernel_rfl) (by kernel_rfl) Tryd.underlying3
  m3 := by kernel_rfl
  m4 := by kernel_rfl }
def lays161_ren : Go.Shelf.Ren := ⟨fun | 161 => 30 | 231 => 48 | 227 => 49 | 233 => 50 | 235 => 51 | 228 => 66 | 197 => 67 | 151 => 68 | 260 => 79 | 152 => 80 | 137 => 54 | 119 => 91 | 224 => 89 | 225 => 88 | 217 => 69 | 266 => 81 | n => n, fun | 9 => 9 | 4 => 4 | 3 => 3 | 5 => 5 | 117 => 70 | 116 => 69 | 0 => 0 | 124 => 73 | 105 => 83 | 21 => 21 | 119 => 104 | 46 => 59 | 139 => 107 | 138 => 106 | n => n, fun | 3 => 2 | 4 => 3 | n => n⟩
theorem lays161 : Go.Proofs.Lays.n161 Tryd.prog lays161_ren := {
  mixed := by kernel_rfl
  f119 := Tryd.func91.trans (congrArg some (by kernel_rfl))
  f137 := Tryd.func54.trans (congrArg some (by kernel_rfl))
  f151 := Tryd.func68.trans (congrArg some (by kernel_rfl))
  f152 := Tryd.func80.trans (congrArg some (by kernel_rfl))
  f161 := Tryd.func30.trans (congrArg some (by kernel_rfl))
  f197 := Tryd.func67.trans (congrArg some (by kernel_rfl))
  f217 := Tryd.func69.trans (congrArg some (by kernel_rfl))
  f224 := Tryd.func89.trans (congrArg some (by kernel_rfl))
  f225 := Tryd.func88.trans (congrArg some (by kernel_rfl))
  f227 := Tryd.func49.trans (congrArg some (by kernel_rfl))
  f228 := Tryd.func66.trans (congrArg some (by kernel_rfl))
  f231 := Tryd.func48.trans (congrArg some (by kernel_rfl))
  f233 := Tryd.func50.trans (congrArg some (by kernel_rfl))
  f235 := Tryd.func51.trans (congrArg some (by kernel_rfl))
  f260 := Tryd.func79.trans (congrArg some (by kernel_rfl))
  f266 := Tryd.func81.trans (congrArg some (by kernel_rfl))
  t0 := Tryd.underlying0
  a0 := Tryd.isAgg0
  z0 := Tryd.sizeOf0
  v0 := Tryd.zeroValue0
  t3 := Tryd.underlying3
  a3 := Tryd.isAgg3
  z3 := Tryd.sizeOf3
  v3 := Tryd.zeroValue3
  t4 := Tryd.underlying4
  a4 := Tryd.isAgg4
  z4 := Tryd.sizeOf4
  v4 := Tryd.zeroValue4
  t5 := Tryd.underlying5
  a5 := Tryd.isAgg5
  z5 := Tryd.sizeOf5
  v5 := Tryd.zeroValue5
  t9 := Tryd.underlying9
  a9 := Tryd.isAgg9
  z9 := Tryd.sizeOf9
  v9 := Tryd.zeroValue9
  t21 := Tryd.underlying21
  a21 := Tryd.isAgg21
  z21 := Tryd.sizeOf21
  v21 := Tryd.zeroValue21
  t46 := Tryd.underlying59
  a46 := Tryd.isAgg59
  z46 := Tryd.sizeOf59
  v46 := Tryd.zeroValue59
  t105 := Tryd.underlying83
  a105 := Tryd.isAgg83
  z105 := Tryd.sizeOf83
  v105 := Tryd.zeroValue83
  t116 := Tryd.underlying69
  a116 := Tryd.isAgg69
  z116 := Tryd.sizeOf69
  t117 := Tryd.underlying70
  a117 := Tryd.isAgg70
  z117 := Tryd.sizeOf70
  v117 := Tryd.zeroValue70
  t119 := Tryd.underlying104
  a119 := Tryd.isAgg104
  z119 := Tryd.sizeOf104
  t124 := Tryd.underlying73
  a124 := Tryd.isAgg73
  z124 := Tryd.sizeOf73
  v124 := Tryd.zeroValue73
  t138 := Tryd.underlying106
  a138 := Tryd.isAgg106
  z138 := Tryd.sizeOf106
  v138 := Tryd.zeroValue106
  t139 := Tryd.underlying107
  a139 := Tryd.isAgg107
  z139 := Tryd.sizeOf107
  v139 := Tryd.zeroValue107
  g3 := by kernel_rfl
  g4 := by kernel_rfl }
def lays99_ren : Go.Shelf.Ren := ⟨fun | 99 => 31 | 206 => 52 | n => n, fun | 9 => 9 | 4 => 4 | 3 => 3 | n => n, fun | n => n⟩
theorem lays99 : Go.Proofs.Lays.n99 Tryd.prog lays99_ren := {
  mixed := by kernel_rfl
  f99 := Tryd.func31.trans (congrArg some (by kernel_rfl))
  f206 := Tryd.func52.trans (congrArg some (by kernel_rfl))
  t3 := Tryd.underlying3
  a3 := Tryd.isAgg3
  z3 := Tryd.sizeOf3
  v3 := Tryd.zeroValue3
  t4 := Tryd.underlying4
  a4 := Tryd.isAgg4
  z4 := Tryd.sizeOf4
  v4 := Tryd.zeroValue4
  t9 := Tryd.underlying9
  a9 := Tryd.isAgg9
  z9 := Tryd.sizeOf9
  v9 := Tryd.zeroValue9 }
def lays137_ren : Go.Shelf.Ren := ⟨fun | 137 => 54 | 217 => 69 | 266 => 81 | n => n, fun | 9 => 9 | 5 => 5 | 3 => 3 | n => n, fun | n => n⟩
theorem lays137 : Go.Proofs.Lays.n137 Tryd.prog lays137_ren := {
  mixed := by kernel_rfl
  f137 := Tryd.func54.trans (congrArg some (by kernel_rfl))
  f217 := Tryd.func69.trans (congrArg some (by kernel_rfl))
  f266 := Tryd.func81.trans (congrArg some (by kernel_rfl))
  t3 := Tryd.underlying3
  a3 := Tryd.isAgg3
  z3 := Tryd.sizeOf3
  v3 := Tryd.zeroValue3
  t5 := Tryd.underlying5
  a5 := Tryd.isAgg5
  z5 := Tryd.sizeOf5
  v5 := Tryd.zeroValue5
  t9 := Tryd.underlying9
  a9 := Tryd.isAgg9
  z9 := Tryd.sizeOf9
  v9 := Tryd.zeroValue9 }
def laysM173_ren : Go.Shelf.Ren := ⟨fun | 173 => 44 | 246 => 61 | 283 => 71 | 284 => 72 | 285 => 73 | 286 => 74 | 129 => 83 | 317 => 82 | 318 => 84 | 319 => 85 | 320 => 86 | 337 => 92 | 338 => 93 | n => n, fun | 2 => 2 | 3 => 3 | 9 => 9 | 4 => 4 | 171 => 89 | 0 => 0 | 53 => 90 | 37 => 35 | 5 => 5 | 173 => 93 | 212 => 98 | 51 => 99 | 20 => 20 | 213 => 100 | 46 => 59 | 232 => 112 | 233 => 113 | n => n, fun | 17 => 0 | 18 => 4 | 19 => 5 | n => n⟩
theorem laysM173 : Go.Proofs.LaysM.n173 Tryd.prog laysM173_ren := {
  mixed := by kernel_rfl
  f129 := Tryd.func83.trans (congrArg some (by kernel_rfl))
  f173 := Tryd.func44.trans (congrArg some (by kernel_rfl))
  f246 := Tryd.func61.trans (congrArg some (by kernel_rfl))
  f283 := Tryd.func71.trans (congrArg some (by kernel_rfl))
  f284 := Tryd.func72.trans (congrArg some (by kernel_rfl))
  f285 := Tryd.func73.trans (congrArg some (by kernel_rfl))
  f286 := Tryd.func74.trans (congrArg some (by kernel_rfl))
  f317 := Tryd.func82.trans (congrArg some (by kernel_rfl))
  f318 := Tryd.func84.trans (congrArg some (by kernel_rfl))
  f319 := Tryd.func85.trans (congrArg some (by kernel_rfl))
  f320 := Tryd.func86.trans (congrArg some (by kernel_rfl))
  f337 := Tryd.func92.trans (congrArg some (by kernel_rfl))
  f338 := Tryd.func93.trans (congrArg some (by kernel_rfl))
  t0 := Tryd.underlying0
  a0 := Tryd.isAgg0
  z0 := Tryd.sizeOf0
  v0 := Tryd.zeroValue0
  t2 := Tryd.underlying2
  a2 := Tryd.isAgg2
  z2 := Tryd.sizeOf2
  v2 := Tryd.zeroValue2
  t3 := Tryd.underlying3
  a3 := Tryd.isAgg3
  z3 := Tryd.sizeOf3
  v3 := Tryd.zeroValue3
  t4 := Tryd.underlying4
  a4 := Tryd.isAgg4
  z4 := Tryd.sizeOf4
  v4 := Tryd.zeroValue4
  t5 := Tryd.underlying5
  a5 := Tryd.isAgg5
  z5 := Tryd.sizeOf5
  v5 := Tryd.zeroValue5
  t9 := Tryd.underlying9
  a9 := Tryd.isAgg9
  z9 := Tryd.sizeOf9
  v9 := Tryd.zeroValue9
  t20 := Tryd.underlying20
  a20 := Tryd.isAgg20
  z20 := Tryd.sizeOf20
  v20 := Tryd.zeroValue20
  t37 := Tryd.underlying35
  a37 := Tryd.isAgg35
  z37 := Tryd.sizeOf35
  v37 := Tryd.zeroValue35
  t46 := Tryd.underlying59
  a46 := Tryd.isAgg59
  z46 := Tryd.sizeOf59
  v46 := Tryd.zeroValue59
  t51 := Tryd.underlying99
  a51 := Tryd.isAgg99
  z51 := Tryd.sizeOf99
  v51 := Tryd.zeroValue99
  t53 := Tryd.underlying90
  a53 := Tryd.isAgg90
  z53 := Tryd.sizeOf90
  v53 := Tryd.zeroValue90
  t171 := Tryd.underlying89
  a171 := Tryd.isAgg89
  z171 := Tryd.sizeOf89
  v171 := Tryd.zeroValue89
  t173 := Tryd.underlying93
  a173 := Tryd.isAgg93
  z173 := Tryd.sizeOf93
  v173 := Tryd.zeroValue93
  t212 := Tryd.underlying98
  a212 := Tryd.isAgg98
  z212 := Tryd.sizeOf98
  v212 := Tryd.zeroValue98
  t213 := Tryd.underlying100
  a213 := Tryd.isAgg100
  z213 := Tryd.sizeOf100
  t232 := Tryd.underlying112
  a232 := Tryd.isAgg112
  z232 := Tryd.sizeOf112
  v232 := Tryd.zeroValue112
  t233 := Tryd.underlying113
  a233 := Tryd.isAgg113
  z233 := Tryd.sizeOf113
  v233 := Tryd.zeroValue113
  g17 := by kernel_rfl
  g18 := by kernel_rfl
  g19 := by kernel_rfl
  i0 := by kernel_rfl
  i2 := by kernel_rfl
  i3 := by kernel_rfl
  i4 := by kernel_rfl
  i5 := by kernel_rfl
  i9 := by kernel_rfl
  i20 := by kernel_rfl
  i37 := by kernel_rfl
  i46 := by kernel_rfl
  i51 := by kernel_rfl
  i53 := by kernel_rfl
  i171 := by kernel_rfl
  i173 := by kernel_rfl
  i212 := by kernel_rfl
  i232 := by kernel_rfl
  i233 := by kernel_rfl
  m17 := by kernel_rfl
  m18 := by kernel_rfl
  m19 := by kernel_rfl }
def lays156_ren : Go.Shelf.Ren := ⟨fun | 156 => 45 | 165 => 62 | 166 => 40 | 169 => 41 | 240 => 59 | 241 => 75 | 276 => 70 | 277 => 87 | n => n, fun | 31 => 29 | 9 => 9 | 3 => 3 | 4 => 4 | 0 => 0 | 20 => 20 | 72 => 53 | 76 => 57 | 70 => 51 | 37 => 35 | 75 => 55 | 127 => 77 | 164 => 86 | 5 => 5 | 80 => 60 | n => n, fun | n => n⟩
theorem lays156 : Go.Proofs.Lays.n156 Tryd.prog lays156_ren := {
  mixed := by kernel_rfl
  f156 := Tryd.func45.trans (congrArg some (by kernel_rfl))
  f165 := Tryd.func62.trans (congrArg some (by kernel_rfl))
  f166 := Tryd.func40.trans (congrArg some (by kernel_rfl))
  f169 := Tryd.func41.trans (congrArg some (by kernel_rfl))
  f240 := Tryd.func59.trans (congrArg some (by kernel_rfl))
  f241 := Tryd.func75.trans (congrArg some (by kernel_rfl))
  f276 := Tryd.func70.trans (congrArg some (by kernel_rfl))
  f277 := Tryd.func87.trans (congrArg some (by kernel_rfl))
  t0 := Tryd.underlying0
  a0 := Tryd.isAgg0
  z0 := Tryd.sizeOf0
  v0 := Tryd.zeroValue0
  t3 := Tryd.underlying3
  a3 := Tryd.isAgg3
  z3 := Tryd.sizeOf3
  v3 := Tryd.zeroValue3
  t4 := Tryd.underlying4
  a4 := Tryd.isAgg4
  z4 := Tryd.sizeOf4
  v4 := Tryd.zeroValue4
  t9 := Tryd.underlying9
  a9 := Tryd.isAgg9
  z9 := Tryd.sizeOf9
  v9 := Tryd.zeroValue9
  t20 := Tryd.underlying20
  a20 := Tryd.isAgg20
  z20 := Tryd.sizeOf20
  v20 := Tryd.zeroValue20
  t31 := Tryd.underlying29
  a31 := Tryd.isAgg29
  z31 := Tryd.sizeOf29
  v31 := Tryd.zeroValue29
  t37 := Tryd.underlying35
  a37 := Tryd.isAgg35
  z37 := Tryd.sizeOf35
  v37 := Tryd.zeroValue35
  t70 := Tryd.underlying51
  a70 := Tryd.isAgg51
  z70 := Tryd.sizeOf51
  v70 := Tryd.zeroValue51
  t72 := Tryd.underlying53
  a72 := Tryd.isAgg53
  z72 := Tryd.sizeOf53
  v72 := Tryd.zeroValue53
  t75 := Tryd.underlying55
  a75 := Tryd.isAgg55
  z75 := Tryd.sizeOf55
  v75 := Tryd.zeroValue55
  t76 := Tryd.underlying57
  a76 := Tryd.isAgg57
  z76 := Tryd.sizeOf57
  v76 := Tryd.zeroValue57
  t127 := Tryd.underlying77
  a127 := Tryd.isAgg77
  z127 := Tryd.sizeOf77
  v127 := Tryd.zeroValue77
  t164 := Tryd.underlying86
  a164 := Tryd.isAgg86
  z164 := Tryd.sizeOf86
  v164 := Tryd.zeroValue86 }
theorem builderExtra156 : Builder.Extra Tryd.prog lays156_ren := {
  sizeBuilder := by kernel_rfl
  liesBuilder := by kernel_rfl
  t5 := Tryd.underlying5
  a5 := Tryd.isAgg5
  z5 := Tryd.sizeOf5
  v5 := Tryd.zeroValue5
  infoByte := by kernel_rfl
  cellsByte := by kernel_rfl
  sizeByte := by kernel_rfl
  neB5 := by decide }
end Go.Proofs.YtiiboiomiacibaaDoor
/- Contracts: functions of the library. -/
set_option linter.unusedVariables false
set_option linter.unusedSimpArgs false
namespace Go.Proofs.YtiiboiomiacibaaDoor
open Go Go.Abs
open Go.RowKit (Below)
theorem hasPrefix_spec (s p : List UInt8) : Ctr sys 31 [xs s, xs p] [] (xb (p.isPrefixOf s)) none [] := by
  refine ctr_pure [.string ⟨s.toArray⟩, .string ⟨p.toArray⟩] ⟨_, Tryd.func31, by kernel_rfl, by kernel_rfl⟩ (fun w G vs h => ?_) (fun w => Any.strings_HasPrefix lays99 ⟨s.toArray⟩ ⟨p.toArray⟩ w) (fun w G => CRep.b _)
  match vs, h with
  | [u, v], ⟨h1, h2, _⟩ => rw [XRep.str h1, XRep.str h2]
theorem u8_back {c : UInt8} {n : Int} (h : n = (c.toNat : Int)) : n.toNat.toUInt8 = c := by
  subst h
  rw [Int.toNat_natCast]
  exact UInt8.ofNat_toNat
theorem indexByte_spec (s : List UInt8) (c : UInt8) (n : Int) (h : n = (c.toNat : Int)) : Ctr sys 54 [xs s, xu n] [] (xi (Lib.indexByte s c)) none [] := by
  refine ctr_pure [.string ⟨s.toArray⟩, .int .u8 n] ⟨_, Tryd.func54, by kernel_rfl, by kernel_rfl⟩ (fun w G vs hv => ?_) (fun w => by
    have := Any.strings_IndexByte lays137 ⟨s.toArray⟩ n w
    rw [u8_back h] at this
    exact this) (fun w G => CRep.i _ _)
  match vs, hv with
  | [u, v], ⟨h1, h2, _⟩ => rw [XRep.str h1, XRep.int h2]
theorem trimLeft_spec (s : List UInt8) (hs : s.length ≤ 1000000) : Ctr sys 30 [xs s, xs [32, 9, 13]] [] (xs (trimE s)) none [] := by
  have hl := trimE_len s
  refine ctr_below (v := .string ⟨(trimE s).toArray⟩) ⟨_, Tryd.func30, by kernel_rfl, by kernel_rfl⟩ (fun w G vs hv hwf hgl => ?_) (fun w G => CRep.s _ (by omega))
  have := Any.strings_TrimLeft_laid lays161 (by kernel_rfl) ⟨s.toArray⟩ ⟨#[32, 9, 13]⟩ w (by decide) (fun j b hj => by
    match j, hj with
    | 0, hj => simp at hj; subst hj; decide
    | 1, hj => simp at hj; subst hj; decide
    | 2, hj => simp at hj; subst hj; decide
    | j + 3, hj => simp at hj)
  match vs, hv with
  | [u, v], ⟨h1, h2, _⟩ =>
    rw [XRep.str h1, XRep.str h2]
    exact this
theorem splitK_cons {b : UInt8} {l : List UInt8} (hb : b ≠ 10) : ∀ (k : Nat), Lib.splitK [10] 0 k (b :: l) = match Lib.splitK [10] 0 k l with
    | [] => [[b]]
    | x :: r => (b :: x) :: r
  | 0 => rfl
  | k + 1 => by
    have hp : ([10] : List UInt8).isPrefixOf (b :: l) = false := by simp [List.isPrefixOf, Ne.symm hb]
    have hix : Lib.index (b :: l) [10] = if Lib.index l [10] == -1 then -1 else Lib.index l [10] + 1 := by rw [Lib.index, hp]; simp
    have hge := Lib.index_ge l [10]
    rw [Lib.splitK, Lib.splitK, hix]
    by_cases hm : Lib.index l [10] = -1
    · rw [hm]; rfl
    · rw [if_neg (c := (Lib.index l [10] == -1) = true) (by simpa using hm), if_neg (c := (Lib.index l [10] + 1 == -1) = true) (by simp; omega), if_neg (c := (Lib.index l [10] == -1) = true) (by simpa using hm)]
      have e : (Lib.index l [10] + 1).toNat = (Lib.index l [10]).toNat + 1 := by omega
      rw [e]
      simp only [Nat.add_zero, List.take_succ_cons, List.length_cons, List.length_nil, Nat.zero_add]
      congr 1
theorem split_eq : ∀ (s : List UInt8), Lib.splitK [10] 0 (Lib.count s [10]) s = spl s
  | [] => rfl
  | b :: l => by
    have ih := split_eq l
    by_cases hb : b = 10
    · subst hb
      have hix : Lib.index (10 :: l) [10] = 0 := by rw [Lib.index]; simp [List.isPrefixOf]
      rw [Lib.count_cons_eq, Nat.add_comm, Lib.splitK, hix]
      simp only [spl]
      rw [if_neg (by decide), if_pos (by rfl)]
      simp only [List.length_cons, List.length_nil, Int.toNat_zero, Nat.zero_add, List.take_zero, List.drop_succ_cons, List.drop_zero]
      rw [ih]
    · rw [Lib.count_cons_ne b 10 l hb, splitK_cons hb, ih, spl, if_neg (c := b.toNat = 10) (fun q => hb (UInt8.toNat_inj.1 q))]
      all_goals (cases spl l <;> rfl)
theorem splitB_eq (s : List UInt8) : (Lib.splitB ⟨#[10]⟩ 0 (Lib.countB ⟨s.toArray⟩ ⟨#[10]⟩) ⟨s.toArray⟩).map (·.data.toList) = spl s := by
  rw [Lib.splitB_data]
  exact split_eq s
theorem all2_str {w : World} {S : Nat → Nat → Prop} : ∀ (bs : List ByteArray), (∀ b ∈ bs, b.data.toList.length ≤ 9223372036854775807) → All2 (CRep w S) (bs.map fun b => C.s b.data.toList) (bs.map Value.string)
  | [], _ => trivial
  | b :: bs, h => ⟨CRep.s b.data.toList (h b (by simp)), all2_str bs fun x hx => h x (by simp [hx])⟩
theorem split_spec (s : List UInt8) (hs : s.length ≤ 1000000) : Ctr sys 29 [xs s, xs [10]] [] (xss (spl s)) none [] := by
  have hsp := splitB_eq s
  have hlen := spl_len s
  have hl2 : (Lib.splitB ⟨#[10]⟩ 0 (Lib.countB ⟨s.toArray⟩ ⟨#[10]⟩) ⟨s.toArray⟩).length = (spl s).length := by rw [← hsp, List.length_map]
  have hcnt := Lib.splitB_all ⟨#[10]⟩ (by decide) 0 (Lib.countB ⟨s.toArray⟩ ⟨#[10]⟩) ⟨s.toArray⟩ rfl
  have key := ctr_alloc (Z := sys) (f := 29) (args := [xs s, xs [10]]) (cs := (Lib.splitB ⟨#[10]⟩ 0 (Lib.countB ⟨s.toArray⟩ ⟨#[10]⟩) ⟨s.toArray⟩).map fun b => C.s b.data.toList) (vals := (Lib.splitB ⟨#[10]⟩ 0 (Lib.countB ⟨s.toArray⟩ ⟨#[10]⟩) ⟨s.toArray⟩).map Value.string) (ty := 9)
    ⟨_, Tryd.func29, by kernel_rfl, by kernel_rfl⟩ (by rw [List.length_map]; omega) (fun w S => all2_str _ fun b hb => by
      have h1 : b.data.toList ∈ spl s := by rw [← hsp]; exact List.mem_map_of_mem (f := (·.data.toList)) hb
      have := spl_mem s _ h1
      omega) (fun w G vs hv hgl => by
      obtain ⟨m, hm⟩ := (hgl (1, intAt) (by simp [sys])).2.1.cell
      have := Any.strings_Split { laysM146 with } (by kernel_rfl) ⟨s.toArray⟩ ⟨#[10]⟩ m w (by show s.length < _; omega) hm (by decide)
      match vs, hv with
      | [u, v], ⟨h1, h2, _⟩ =>
        rw [XRep.str h1, XRep.str h2]
        refine this.mono ?_
        rintro e w' ⟨he, hw⟩
        refine ⟨?_, hw⟩
        rw [he, List.length_map, hcnt])
  have e : ((Lib.splitB ⟨#[10]⟩ 0 (Lib.countB ⟨s.toArray⟩ ⟨#[10]⟩) ⟨s.toArray⟩).map fun b => C.s b.data.toList).map (fun c => [c]) = strR (spl s) := by
    rw [← hsp, strR, List.map_map, List.map_map]
    rfl
  rw [e] at key
  exact key
end Go.Proofs.YtiiboiomiacibaaDoor
/- The methods of strings.Builder, step by step: what they do to a world. -/
set_option linter.unusedVariables false
set_option linter.unusedSimpArgs false
namespace Go.Proofs.YtiiboiomiacibaaDoor
open Go Go.Proofs Go.RowKit
open Go.Abs (Checked1 BdSys)
theorem infoB0 : (Tryd.prog.info? 53).map (·.size) = some 2 := by kernel_rfl
theorem infoB : ∃ j, Tryd.prog.info? 53 = some j ∧ j.size = 2 := Option.map_eq_some_iff.1 infoB0
set_option maxHeartbeats 1000000 in
set_option maxRecDepth 100000 in
theorem copyCheck_used (b : Nat) (w : World) (h0 : w.cell? ⟨b, 0, none⟩ = some (.pointer (some ⟨b, 0, none⟩))) :
    Calls Tryd.prog 59 #[.pointer (some ⟨b, 0, none⟩)] w fun e w' => e = .returned (.tuple #[]) ∧ w' = w := by
  obtain ⟨j, hj, _⟩ := infoB
  go_enter Tryd.func59, Tryd.ntmps59
  go_wp2
  rw [Lib.run_neq_ptr_same w _ Tryd.underlying51 hj]
  go_wp2
  go_end0
  exact ⟨rfl, rfl⟩
set_option maxHeartbeats 1000000 in
set_option maxRecDepth 100000 in
theorem copyCheck_fresh (b : Nat) (w : World) (h0 : w.cell? ⟨b, 0, none⟩ = some (.pointer none)) (hsh : w.shape? b = some (53, 2)) (hfz : w.frozen? ⟨b, 0, none⟩ = false) :
    Calls Tryd.prog 59 #[.pointer (some ⟨b, 0, none⟩)] w fun e w' => e = .returned (.tuple #[]) ∧ w' = w.setCell ⟨b, 0, none⟩ (.pointer (some ⟨b, 0, none⟩)) := by
  obtain ⟨j, hj, hjs⟩ := infoB
  go_enter Tryd.func59, Tryd.ntmps59
  go_wp2
  rw [Lib.run_to_unsafe w ⟨b, 0, none⟩ Tryd.underlying51 Tryd.underlying86 hj (by rw [hjs]; decide) hsh (Nat.zero_lt_succ 1)]
  simp only [Result.andThen]
  rw [Oper.upon_value]
  go_wp2
  rw [run_callFunc_extern Tryd.func70 (by kernel_rfl) (by kernel_rfl) (by kernel_rfl) (e := Extern.AbiNoEscape.same) (by kernel_rfl)]
  rw [Lib.run_noEscape]
  simp only [Result.andThen]
  rw [Oper.upon_value]
  go_wp2
  rw [Lib.run_from_unsafe w ⟨b, 0, none⟩ Tryd.underlying86 Tryd.underlying51 hj hsh (by kernel_rfl)]
  simp only [Result.andThen]
  rw [Oper.upon_value]
  go_wp2
  go_end0
  exact ⟨rfl, rfl⟩
theorem wpList_run {P : Program} {ops : Array Oper} {rest : List Oper} {o : Oper} {a : Act} {w w1 : World} {Q : Exit → Act → World → Prop} {v : Value} (hgd : o.guard = none)
    (hrun : (execOp a.eval o).run P w = .ok (.value v) w1) (h : wpList P ops Q rest (a.put o.dst v) w1) : wpList P ops Q (o :: rest) a w := by
  unfold wpList
  have hw : Region.wanted o (yielded ops a.tmps) = true := by simp [Region.wanted, hgd]
  rw [hw]
  simp only [if_true]
  refine .inl ?_
  unfold Oper.wp
  rw [hrun, Oper.upon_value]
  exact h
theorem copyCheck_any (b : Nat) (w w0 : World) (h : Checked1 b w w0) (hsh : w.shape? b = some (53, 2)) (hfz : w.frozen? ⟨b, 0, none⟩ = false) :
    Calls Tryd.prog 59 #[.pointer (some ⟨b, 0, none⟩)] w fun e w' => e = .returned (.tuple #[]) ∧ w' = w0 := by
  rcases h with ⟨h, rfl⟩ | ⟨h, rfl⟩
  · exact copyCheck_fresh b w h hsh hfz
  · exact copyCheck_used b _ h
set_option maxHeartbeats 1000000 in
set_option maxRecDepth 100000 in
theorem writeString_walk (b : Nat) (w w0 w1 : World) (v' : Value) (uo : Option Addr) (un uc : Nat) (s : ByteArray) (h : Checked1 b w w0) (hsh : w.shape? b = some (53, 2)) (hfz : w.frozen? ⟨b, 0, none⟩ = false)
    (h1 : w0.cell? ⟨b, 1, none⟩ = some v') (hap : (Builtin.append_ #[35, 9] 35 #[v', .string s]).run Tryd.prog w0 = .ok (.slice uo un uc) w1) (h2 : w1.cell? ⟨b, 1, none⟩ = some v') (hf1 : w1.frozen? ⟨b, 1, none⟩ = false) :
    Calls Tryd.prog 40 #[.pointer (some ⟨b, 0, none⟩), .string s] w fun e w' => e = .returned (.tuple #[.int .i64 s.size, .nilIface]) ∧ w' = w1.setCell ⟨b, 1, none⟩ (.slice uo un uc) := by
  go_enter Tryd.func40, Tryd.ntmps40
  go_wp2_with (go_at_call 59; refine (copyCheck_any b w w0 h hsh hfz).mono ?_)
  rintro e w' ⟨rfl, rfl⟩
  go_wp2_with (at_builtin; refine wpList_run rfl (v := .slice uo un uc) (w1 := w1) ?hr ?_)
  case hr => simp [execOp, Go.resolve, invoke, builtin, Act.eval, Act.put, hap]
  go_wp2
  go_ret2
  exact ⟨rfl, rfl⟩
set_option maxHeartbeats 1000000 in
set_option maxRecDepth 100000 in
theorem writeByte_walk (b : Nat) (w w0 w1 : World) (v' : Value) (uo : Option Addr) (un uc : Nat) (c : Int) (h : Checked1 b w w0) (hsh : w.shape? b = some (53, 2)) (hfz : w.frozen? ⟨b, 0, none⟩ = false)
    (h1 : w0.cell? ⟨b, 1, none⟩ = some v') (hap : (Builtin.append_ #[35, 35] 35 #[v', .slice (some ⟨w0.heap.size, 0, none⟩) 1 1]).run Tryd.prog (w0.alloc (.cells #[.int .u8 c] 5)) = .ok (.slice uo un uc) w1) (h2 : w1.cell? ⟨b, 1, none⟩ = some v') (hf1 : w1.frozen? ⟨b, 1, none⟩ = false) :
    Calls Tryd.prog 39 #[.pointer (some ⟨b, 0, none⟩), .int .u8 c] w fun e w' => e = .returned .nilIface ∧ w' = w1.setCell ⟨b, 1, none⟩ (.slice uo un uc) := by
  go_enter Tryd.func39, Tryd.ntmps39
  go_wp2_with (go_at_call 59; refine (copyCheck_any b w w0 h hsh hfz).mono ?_)
  rintro e w' ⟨rfl, rfl⟩
  go_wp2_with (at_builtin; refine wpList_run rfl (v := .slice uo un uc) (w1 := w1) ?hr ?_)
  case hr => simp [execOp, Go.resolve, invoke, builtin, Act.eval, Act.put, hap]
  go_wp2
  go_ret
  exact ⟨rfl, rfl⟩
set_option maxHeartbeats 1000000 in
set_option maxRecDepth 100000 in
theorem string_walk (b : Nat) (w w1 w2 : World) (ao : Option Addr) (n cap : Nat) (p : Value) (s : ByteArray) (h1 : w.cell? ⟨b, 1, none⟩ = some (.slice ao n cap))
    (hsd : (Builtin.unsafeSliceData_ #[35] 77 #[.slice ao n cap]).run Tryd.prog w.drew = .ok p w1) (h2 : w1.cell? ⟨b, 1, none⟩ = some (.slice ao n cap))
    (hus : (Builtin.unsafeString_ #[77, 3] 9 #[p, .int .i64 n]).run Tryd.prog w1 = .ok (.string s) w2) :
    Calls Tryd.prog 41 #[.pointer (some ⟨b, 0, none⟩)] w fun e w' => e = .returned (.string s) ∧ w' = w2 := by
  have c1 : w.drew.cell? ⟨b, 1, none⟩ = some (.slice ao n cap) := h1
  go_enter Tryd.func41, Tryd.ntmps41
  go_wp2
  go_region
  all_goals (go_wp2; go_ret; exact ⟨rfl, rfl⟩)
theorem infoU0 : (Tryd.prog.info? 5).map (fun j => (j.size, j.bytes, j.zero)) = some (1, 1, some (.int .u8 0)) := by kernel_rfl
theorem infoU : ∃ j, Tryd.prog.info? 5 = some j ∧ j.size = 1 ∧ j.bytes = 1 ∧ j.zero = some (.int .u8 0) := by
  obtain ⟨j, h1, h2⟩ := Option.map_eq_some_iff.1 infoU0
  simp only [Prod.mk.injEq] at h2
  exact ⟨j, h1, h2⟩
theorem enW0 : Abs.Enters sys 40 := ⟨_, Tryd.func40, by kernel_rfl, by kernel_rfl⟩
theorem enB0 : Abs.Enters sys 39 := ⟨_, Tryd.func39, by kernel_rfl, by kernel_rfl⟩
theorem enS0 : Abs.Enters sys 41 := ⟨_, Tryd.func41, by kernel_rfl, by kernel_rfl⟩
/-- What the steps of a Builder lean on, of this program. -/
noncomputable def bds : BdSys sys where
  tB := 53
  tS := 35
  tStr := 9
  tU := 5
  tPU := 77
  tI := 3
  tN := 53 * 4096 + 5
  hN1 := rfl
  hN2 := rfl
  fW := 40
  fB := 39
  fS := 41
  jf := infoU.choose
  hu := Tryd.underlying35
  hstr := Tryd.underlying9
  hpu := Tryd.underlying77
  hinfo := infoU.choose_spec.1
  hsz := infoU.choose_spec.2.1
  hby := infoU.choose_spec.2.2.1
  hze := infoU.choose_spec.2.2.2
  hcells := (show Tryd.prog.cellsOf 5 = 1 by kernel_rfl)
  enW := enW0
  enB := enB0
  enS := enS0
  ws := fun b w w0 w1 v' uo un uc s h1 h2 h3 h4 h5 h6 h7 => writeString_walk b w w0 w1 v' uo un uc s h1 h2 h3 h4 h5 h6 h7
  wb := fun b w w0 w1 v' uo un uc c h1 h2 h3 h4 h5 h6 h7 => writeByte_walk b w w0 w1 v' uo un uc c h1 h2 h3 h4 h5 h6 h7
  st := fun b w w1 w2 ao n cap p s h1 h2 h3 h4 => string_walk b w w1 w2 ao n cap p s h1 h2 h3 h4
end Go.Proofs.YtiiboiomiacibaaDoor
/- Contracts: the lexer's parts. -/
set_option linter.unusedVariables false
set_option linter.unusedSimpArgs false
namespace Go.Proofs.YtiiboiomiacibaaDoor
open Go Go.Abs
theorem lletter_spec (n : Int) : Ctr sys 36 [xu n] [] (xb (letterB n)) none [] := by
  refine spec_intro Tryd.func36 rfl rfl rfl rfl rfl rfl ?_
  refine awp_seq (awp_region ?_)
  refine al_pure rfl rfl rfl (pure_assign rfl gU) ?_
  refine al_nil ?_
  refine awp_seq (awp_region ?_)
  refine al_pure rfl rfl rfl (pure_move rfl gU) ?_
  refine al_pure rfl rfl rfl (pure_cmp rfl rfl gU gU rfl) ?_
  refine al_pure rfl rfl rfl (pure_move rfl gU) ?_
  refine al_pure rfl rfl rfl (pure_move rfl gU) ?_
  refine al_pure rfl rfl rfl (pure_cmp rfl rfl (fun hh => hh) gU rfl) ?_
  refine al_pure rfl rfl rfl (pure_and rfl rfl gU (fun _ hi => gP rfl hi)) ?_
  refine al_pure rfl rfl rfl (pure_move rfl gU) ?_
  refine al_pure rfl rfl rfl (pure_move rfl gU) ?_
  refine al_pure rfl rfl rfl (pure_cmp rfl rfl (fun hh => hh) gU rfl) ?_
  refine al_pure rfl rfl rfl (pure_move rfl (fun hh => hh)) ?_
  refine al_pure rfl rfl rfl (pure_move rfl gU) ?_
  refine al_pure rfl rfl rfl (pure_cmp rfl rfl (fun hh => hh) gU rfl) ?_
  refine al_pure rfl rfl rfl (pure_and rfl rfl (fun hh => hh) (fun hh hi => gP hh hi)) ?_
  refine al_pure rfl rfl rfl (pure_or rfl rfl gU (fun _ hi => gP rfl hi)) ?_
  refine al_pure rfl rfl rfl (pure_assign rfl gU) ?_
  refine al_nil ?_
  refine awp_ret ?_
  repeat (first | refine tR ?_ | refine bR ?_)
  refine ret_ok rfl ?_ trivial
  rfl
theorem ldigit_spec (n : Int) : Ctr sys 53 [xu n] [] (xb (digitB n)) none [] := by
  refine spec_intro Tryd.func53 rfl rfl rfl rfl rfl rfl ?_
  refine awp_seq (awp_region ?_)
  refine al_pure rfl rfl rfl (pure_assign rfl gU) ?_
  refine al_nil ?_
  refine awp_seq (awp_region ?_)
  refine al_pure rfl rfl rfl (pure_move rfl gU) ?_
  refine al_pure rfl rfl rfl (pure_cmp rfl rfl gU gU rfl) ?_
  refine al_pure rfl rfl rfl (pure_move rfl gU) ?_
  refine al_pure rfl rfl rfl (pure_move rfl gU) ?_
  refine al_pure rfl rfl rfl (pure_cmp rfl rfl (fun hh => hh) gU rfl) ?_
  refine al_pure rfl rfl rfl (pure_and rfl rfl gU (fun _ hi => gP rfl hi)) ?_
  refine al_pure rfl rfl rfl (pure_assign rfl gU) ?_
  refine al_nil ?_
  refine awp_ret ?_
  repeat (first | refine tR ?_ | refine bR ?_)
  refine ret_ok rfl ?_ trivial
  rfl
theorem pre2 (b : UInt8) (l : List UInt8) : ([35, 35] : List UInt8).isPrefixOf (b :: l) = (decide (b.toNat = 35) && decide ((l.getD 0 0).toNat = 35)) := by
  have hb : ∀ x : UInt8, ((35 : UInt8) == x) = decide (x.toNat = 35) := by
    intro x
    rw [Bool.eq_iff_iff]
    simp only [beq_iff_eq, decide_eq_true_eq]
    exact ⟨fun h => by subst h; rfl, fun h => UInt8.toNat_inj.1 (by rw [h]; rfl)⟩
  cases l with
  | nil => simp [List.isPrefixOf, hb]
  | cons c r => simp [List.isPrefixOf, hb]
theorem nameLength_spec (s : List UInt8) (hs : s.length ≤ 1000000) : Ctr sys 37 [xs s] [] (xi (nlE s : Nat)) none [] := by
  refine spec_intro Tryd.func37 rfl rfl rfl rfl rfl rfl ?_
  refine awp_seq (awp_region ?_)
  refine al_pure rfl rfl rfl (pure_assign rfl gU) ?_
  refine al_nil ?_
  refine awp_seq (awp_region ?_)
  refine al_pure rfl rfl rfl (pure_assign rfl gU) ?_
  refine al_nil ?_
  refine awp_seq ?_
  refine awp_block ?_
  refine awp_for (ι := Nat) { t := [(0, _, _)], bx := [], ow := [] } (fun k => [(3, true, xi (k : Int))]) (fun k => []) (fun k => 1 ≤ k ∧ (k ≤ s.length ∨ k = 1) ∧ nmP (s.drop k) + k = nlE s) (fun k => s.length - k) (1) (⟨by omega, by omega, by unfold nlE; omega⟩) (sub_mk (⟨sx rfl, ⟨sx rfl, trivial⟩⟩) trivial trivial) ?_
  intro k hok
  dsimp only [List.cons_append, List.nil_append]
  obtain ⟨hk1, hk, hi⟩ := hok
  refine awp_seq ?_
  refine awp_seq (awp_region ?_)
  refine al_pure rfl rfl rfl (pure_move rfl gU) ?_
  refine al_pure rfl rfl rfl (pure_move rfl gU) ?_
  refine al_lenS rfl rfl rfl rfl rfl gU (Tryd.underlying9) ?_ (fun hh => by simp at hh); intro hlen
  refine al_pure rfl rfl rfl (pure_cmp rfl rfl gU gU rfl) ?_
  refine al_pure rfl rfl rfl (pure_move rfl gU) ?_
  refine al_pure rfl rfl rfl (pure_move rfl gU) ?_
  refine al_pure rfl rfl rfl (pure_move rfl gU) ?_
  refine al_pure rfl rfl rfl (pure_indexSg (j := k) rfl rfl (fun hh => hh) (fun hh => hh) Tryd.underlying9 (by first | omega | (simp at hh ⊢; omega)) (fun hh => by first | omega | (simp at hh ⊢; omega))) ?_
  refine al_call rfl rfl rfl rfl rfl rfl gU (fun hh => gA ((fun hh => hh) hh) (rfl)) (lletter_spec _) rfl ?_
  refine al_pure rfl rfl rfl (pure_move rfl (fun hh => hh)) ?_
  refine al_pure rfl rfl rfl (pure_move rfl gU) ?_
  refine al_pure rfl rfl rfl (pure_move rfl gU) ?_
  refine al_sub (s := { t := [(0, _, _), (3, _, _), (8, _, _), (13, _, _), (14, _, _), (15, _, _)], bx := [], ow := [] }) (sub_mk (⟨sx rfl, ⟨sx rfl, ⟨sx rfl, ⟨sx rfl, ⟨sx rfl, ⟨sx rfl, trivial⟩⟩⟩⟩⟩⟩) trivial trivial) ?_
  refine al_pure rfl rfl rfl (pure_indexSg (j := k) rfl rfl (fun hh => hh) (fun hh => hh) Tryd.underlying9 (by first | omega | (simp at hh ⊢; omega)) (fun hh => by first | omega | (simp at hh ⊢; omega))) ?_
  refine al_call rfl rfl rfl rfl rfl rfl gU (fun hh => gA ((fun hh => hh) hh) (rfl)) (ldigit_spec _) rfl ?_
  refine al_pure rfl rfl rfl (pure_or rfl rfl (fun hh => hh) (fun hh hi => gP hh hi)) ?_
  refine al_pure rfl rfl rfl (pure_move rfl (fun hh => hh)) ?_
  refine al_pure rfl rfl rfl (pure_move rfl gU) ?_
  refine al_pure rfl rfl rfl (pure_move rfl gU) ?_
  refine al_pure rfl rfl rfl (pure_indexSg (j := k) rfl rfl (fun hh => hh) (fun hh => hh) Tryd.underlying9 (by first | omega | (simp at hh ⊢; omega)) (fun hh => by first | omega | (simp at hh ⊢; omega))) ?_
  refine al_pure rfl rfl rfl (pure_cmp rfl rfl (fun hh => hh) gU rfl) ?_
  refine al_pure rfl rfl rfl (pure_or rfl rfl (fun hh => hh) (fun hh hi => gP hh hi)) ?_
  refine al_pure rfl rfl rfl (pure_move rfl (fun hh => hh)) ?_
  refine al_pure rfl rfl rfl (pure_move rfl gU) ?_
  refine al_pure rfl rfl rfl (pure_move rfl gU) ?_
  refine al_sub (s := { t := [(0, _, _), (3, _, _), (8, _, _), (25, _, _), (26, _, _), (27, _, _)], bx := [], ow := [] }) (sub_mk (⟨sx rfl, ⟨sx rfl, ⟨sx rfl, ⟨sx rfl, ⟨sx rfl, ⟨sx rfl, trivial⟩⟩⟩⟩⟩⟩) trivial trivial) ?_
  refine al_pure rfl rfl rfl (pure_indexSg (j := k) rfl rfl (fun hh => hh) (fun hh => hh) Tryd.underlying9 (by first | omega | (simp at hh ⊢; omega)) (fun hh => by first | omega | (simp at hh ⊢; omega))) ?_
  refine al_pure rfl rfl rfl (pure_cmp rfl rfl (fun hh => hh) gU rfl) ?_
  refine al_pure rfl rfl rfl (pure_or rfl rfl (fun hh => hh) (fun hh hi => gP hh hi)) ?_
  refine al_pure rfl rfl rfl (pure_and rfl rfl gU (fun _ hi => gP rfl hi)) ?_
  refine al_nil ?_
  refine awp_cond rfl (fun hc => ?_) (fun hc => ?_)
  · try simp only [nn] at hc
    rw [drop_get0 (by omega), nmP] at hi
    refine awp_skip ?_
    refine awp_block ?_
    refine awp_seq ?_
    refine awp_seq (awp_region ?_)
    refine al_pure rfl rfl rfl (pure_move rfl gU) ?_
    refine al_pure rfl rfl rfl (pure_move rfl gU) ?_
    refine al_pure rfl rfl rfl (pure_sliceS (l := k) rfl gU Tryd.underlying9 (fun _ => ⟨_, _, _, rfl, gU, by first | omega | (simp at hh ⊢; omega)⟩) (fun _ => rfl) (fun hh => by first | omega | (simp at hh ⊢; omega)) (fun hh => by first | omega | (simp at hh ⊢; omega))) ?_
    refine al_call rfl rfl rfl rfl rfl rfl gU gU (hasPrefix_spec _ _) rfl ?_
    refine al_nil ?_
    refine awp_sub (s := { t := [(0, _, _), (3, _, _), (35, _, _)], bx := [], ow := [] }) (sub_mk (⟨sx rfl, ⟨sx rfl, ⟨sx rfl, trivial⟩⟩⟩) trivial trivial) ?_
    refine awp_cond rfl (fun hc2 => ?_) (fun hc2 => ?_)
    · try simp only [nn] at hc2
      rw [List.take_length, drop_get0 (by omega), pre2] at hc2
      refine awp_exit ?_
      repeat (first | refine thenS_exit ?_ | refine blockS_hit ?_ | refine blockS_miss rfl ?_)
      refine awp_seq (awp_region ?_)
      refine al_pure rfl rfl rfl (pure_move rfl gU) ?_
      refine al_pure rfl rfl rfl (pure_assign rfl gU) ?_
      refine al_nil ?_
      refine awp_ret ?_
      repeat (first | refine tR ?_ | refine bR ?_)
      refine ret_ok rfl ?_ trivial
      (have hn := hi; rw [if_neg (by intro q; simp only [Bool.and_eq_true, decide_eq_true_eq] at hc2; exact q.2 hc2)] at hn; exact xi_eq (by omega))
    · try simp only [nn] at hc2
      rw [List.take_length, drop_get0 (by omega), pre2] at hc2
      have hn := hi
      rw [if_pos ⟨by simp only [partB]; grind, by simpa using hc2⟩] at hn
      refine awp_skip ?_
      refine awp_region ?_
      refine al_pure rfl rfl rfl (pure_move rfl gU) ?_
      refine al_pure rfl rfl rfl (pure_arith rfl rfl gU gU rfl (IntWalk.i64_in _ (by omega))) ?_
      refine al_pure rfl rfl rfl (pure_assign rfl gU) ?_
      refine al_nil ?_
      refine ⟨k + 1, ?_, ?_, sub_mk (⟨⟨_, rfl, ?_⟩, ⟨sx rfl, trivial⟩⟩) trivial trivial⟩
      all_goals (first | rfl | omega | exact ⟨by omega, by omega, by omega⟩)
  · try simp only [nn] at hc
    refine awp_exit ?_
    repeat (first | refine thenS_exit ?_ | refine blockS_hit ?_ | refine blockS_miss rfl ?_)
    refine awp_seq (awp_region ?_)
    refine al_pure rfl rfl rfl (pure_move rfl gU) ?_
    refine al_pure rfl rfl rfl (pure_assign rfl gU) ?_
    refine al_nil ?_
    refine awp_ret ?_
    repeat (first | refine tR ?_ | refine bR ?_)
    refine ret_ok rfl ?_ trivial
    (have hn : nmP (s.drop k) = 0 := by { by_cases hlt : k < s.length; { rw [drop_get0 hlt, nmP, if_neg (by simp only [partB]; grind)] }; { rw [List.drop_of_length_le (by omega)]; rfl } }; exact xi_eq (by omega))
/-- Hexadecimal digits, as the program finds them. -/
theorem hexI : ∀ n : Fin 256, Lib.indexByte hexs (UInt8.ofNat n.val) = if hexB (UInt8.ofNat n.val) = true then hexV (UInt8.ofNat n.val) else -1 := by decide +kernel
theorem hex_index (c : UInt8) : Lib.indexByte hexs c = if hexB c = true then hexV c else -1 := by
  have := hexI ⟨c.toNat, c.toNat_lt⟩
  rwa [show UInt8.ofNat c.toNat = c from UInt8.ofNat_toNat] at this
theorem hexV_le {c : UInt8} (h : hexB c = true) : 0 ≤ hexV c ∧ hexV c ≤ 15 := by
  simp [hexB] at h
  unfold hexV
  split <;> omega
theorem symI : ∀ n : Fin 256, (decide (0 ≤ Lib.indexByte syms (UInt8.ofNat n.val))) = symB (UInt8.ofNat n.val) := by decide +kernel
theorem sym_index (c : UInt8) : decide (0 ≤ Lib.indexByte syms c) = symB c := by
  have := symI ⟨c.toNat, c.toNat_lt⟩
  rwa [show UInt8.ofNat c.toNat = c from UInt8.ofNat_toNat] at this
theorem bdc {a b : List UInt8} (h : a = b) : [C.bl, C.sl 1 (bytesR a)] = [C.bl, C.sl 1 (bytesR b)] := by rw [h]
theorem u8_nat {x : Int} {n : Nat} (h : x = n) (hn : n < 256) : x = ((UInt8.ofNat n).toNat : Int) := by
  rw [h, UInt8.toNat_ofNat']; omega
theorem byte1 {x : Int} {n : Nat} (h : x = n) (hn : n < 256) : [[C.i .u8 x]] = bytesR [UInt8.ofNat n] := by
  rw [u8_nat h hn]; rfl
theorem byteO {x : Int} {b : UInt8} (h : x = (b.toNat : Int)) : [[C.i .u8 x]] = bytesR [b] := by rw [h]; rfl
/-- One step of a literal. -/
theorem litA_nil {n i : Nat} {l out : List UInt8} (h : l = []) : litA n l i out = ([], 0) := by subst h; cases n <;> rfl
end Go.Proofs.YtiiboiomiacibaaDoor
/- Contracts: literals, as the lexer reads them. -/
set_option linter.unusedVariables false
set_option linter.unusedSimpArgs false
namespace Go.Proofs.YtiiboiomiacibaaDoor
open Go Go.Abs
theorem escE_at {s : List UInt8} {k : Nat} (h : k < s.length) : escE (s.drop k) = if (s.getD k 0).toNat = 110 then (10, 1) else if (s.getD k 0).toNat = 116 then (9, 1) else if (s.getD k 0).toNat = 34 ∨ (s.getD k 0).toNat = 92 then (s.getD k 0, 1)
    else if (s.getD k 0).toNat = 120 ∧ k + 2 < s.length ∧ hexB (s.getD (k + 1) 0) = true ∧ hexB (s.getD (k + 2) 0) = true then (UInt8.ofNat (16 * hexV (s.getD (k + 1) 0) + hexV (s.getD (k + 2) 0)).toNat, 3) else (0, 0) := by
  have e : (2 ≤ s.length - (k + 1)) = (k + 2 < s.length) := propext (by omega)
  rw [drop_get0 h, escE, getD_drop, getD_drop, List.length_drop]
  simp only [e, Nat.add_zero]
theorem escE_end {s : List UInt8} {k : Nat} (h : s.length ≤ k) : escE (s.drop k) = (0, 0) := by
  rw [List.drop_of_length_le h]; rfl
/-- How a literal goes on. -/
theorem litA_step {s out : List UInt8} {n k : Nat} (h : k < s.length) : litA (n + 1) (s.drop k) k out = if (s.getD k 0).toNat = 34 then (out, k + 1)
    else if (s.getD k 0).toNat = 92 then (if (escE (s.drop (k + 1))).2 = 0 then ([], 0) else litA n (s.drop (k + 1 + (escE (s.drop (k + 1))).2)) (k + 1 + (escE (s.drop (k + 1))).2) (out ++ [(escE (s.drop (k + 1))).1]))
    else if (s.getD k 0).toNat < 32 ∨ 126 < (s.getD k 0).toNat then ([], 0) else litA n (s.drop (k + 1)) (k + 1) (out ++ [s.getD k 0]) := by
  rw [drop_get0 h, litA, List.drop_drop]
theorem hex_neg {c : UInt8} (h : ¬Lib.indexByte hexs c < 0) : hexB c = true ∧ Lib.indexByte hexs c = hexV c := by
  rw [hex_index] at h ⊢
  by_cases hb : hexB c = true
  · rw [if_pos hb]; exact ⟨hb, rfl⟩
  · rw [if_neg hb] at h; omega
theorem hex_neg' {c : UInt8} (h : Lib.indexByte hexs c < 0) : hexB c ≠ true := by
  intro hb
  rw [hex_index, if_pos hb] at h
  have := hexV_le hb
  omega
theorem llit_spec (s : List UInt8) (h : 0 < s.length) (hs : s.length ≤ 1000000) : Ctr sys 42 [xs s] [] (xsn (litE s)) none [] := by
  refine spec_intro Tryd.func42 rfl rfl rfl rfl rfl rfl ?_
  refine awp_seq (awp_region ?_)
  refine al_pure rfl rfl rfl (pure_assign rfl gU) ?_
  refine al_pure rfl rfl rfl (pure_assign rfl gU) ?_
  refine al_nil ?_
  refine awp_seq (awp_region ?_)
  refine al_do rfl (does_allocBd (u := 217093) rfl rfl rfl rfl rfl) ?_
  refine al_nil ?_
  refine awp_seq ?_
  refine awp_seq (awp_region ?_)
  refine al_pure rfl rfl rfl (pure_assign rfl gU) ?_
  refine al_nil ?_
  refine awp_block ?_
  refine awp_for (ι := Nat × List UInt8) { t := [(0, _, _), (4, _, _)], bx := [], ow := [((.b (.bd 217093 4) 1), _)] } (fun p => [(5, true, xi (p.1 : Int))]) (fun p => [((.bd 217093 4), [.bl, .sl 1 (bytesR p.2)])]) (fun p => p.1 ≤ s.length ∧ p.2.length ≤ p.1 ∧ ∃ n, s.length < n + p.1 ∧ litA n (s.drop p.1) p.1 p.2 = litE s) (fun p => s.length - p.1) ((1, [])) (⟨by dsimp only; omega, by simp, s.length + 1, by dsimp only; omega, rfl⟩) (sub_mk (⟨sx rfl, ⟨sx rfl, ⟨sx rfl, trivial⟩⟩⟩) (⟨sx rfl, trivial⟩) (⟨rfl, trivial⟩)) ?_
  intro p hok
  dsimp only [List.cons_append, List.nil_append] at *
  obtain ⟨k, out⟩ := p
  dsimp only at hok ⊢
  obtain ⟨hk, ho, n, hn, hi⟩ := hok
  obtain ⟨n, rfl⟩ : ∃ m, n = m + 1 := ⟨n - 1, by omega⟩
  have hu := (s.getD k 0).toNat_lt
  have hu1 := (s.getD (k + 1) 0).toNat_lt
  refine awp_seq ?_
  refine awp_seq (awp_region ?_)
  refine al_pure rfl rfl rfl (pure_move rfl gU) ?_
  refine al_pure rfl rfl rfl (pure_move rfl gU) ?_
  refine al_lenS rfl rfl rfl rfl rfl gU (Tryd.underlying9) ?_ (fun hh => by simp at hh); intro hlen
  refine al_pure rfl rfl rfl (pure_cmp rfl rfl gU gU rfl) ?_
  refine al_nil ?_
  refine awp_cond rfl (fun hc => ?_) (fun hc => ?_)
  · try simp only [nn] at hc
    rw [litA_step (by omega)] at hi
    refine awp_skip ?_
    refine awp_seq ?_
    refine awp_block ?_
    refine awp_seq (awp_region ?_)
    refine al_pure rfl rfl rfl (pure_move rfl gU) ?_
    refine al_pure rfl rfl rfl (pure_move rfl gU) ?_
    refine al_pure rfl rfl rfl (pure_indexSg (j := k) rfl rfl gU gU Tryd.underlying9 (by omega) (fun hh => by omega)) ?_
    refine al_pure rfl rfl rfl (pure_assign rfl gU) ?_
    refine al_nil ?_
    refine awp_sub (s := { t := [(0, _, _), (4, _, _), (5, _, _), (6, _, _)], bx := [((.bd 217093 4), _)], ow := [((.b (.bd 217093 4) 1), _)] }) (sub_mk (⟨sx rfl, ⟨sx rfl, ⟨sx rfl, ⟨sx rfl, trivial⟩⟩⟩⟩) (⟨sx rfl, trivial⟩) (⟨rfl, trivial⟩)) ?_
    refine awp_block ?_
    refine awp_seq (awp_region ?_)
    refine al_pure rfl rfl rfl (pure_move rfl gU) ?_
    refine al_pure rfl rfl rfl (pure_cmp rfl rfl gU gU rfl) ?_
    refine al_pure rfl rfl rfl (pure_assign rfl gU) ?_
    refine al_nil ?_
    refine awp_cond rfl (fun hc2 => ?_) (fun hc2 => ?_)
    · try simp only [nn] at hc2
      rw [if_pos (by omega)] at hi
      refine awp_seq (awp_region ?_)
      refine al_bst bds rfl rfl rfl rfl rfl rfl rfl rfl ?_
      refine al_pure rfl rfl rfl (pure_move rfl gU) ?_
      refine al_pure rfl rfl rfl (pure_arith rfl rfl gU gU rfl (IntWalk.i64_in _ (by omega))) ?_
      refine al_pure rfl rfl rfl (pure_assign rfl gU) ?_
      refine al_pure rfl rfl rfl (pure_assign rfl gU) ?_
      refine al_nil ?_
      refine awp_ret ?_
      repeat (first | refine tR ?_ | refine bR ?_)
      refine ret_ok rfl ?_ trivial
      (rw [← hi]; rfl)
    · try simp only [nn] at hc2
      rw [if_neg (by omega)] at hi
      refine awp_seq (awp_region ?_)
      refine al_pure rfl rfl rfl (pure_move rfl gU) ?_
      refine al_pure rfl rfl rfl (pure_cmp rfl rfl gU gU rfl) ?_
      refine al_pure rfl rfl rfl (pure_assign rfl gU) ?_
      refine al_nil ?_
      refine awp_sub (s := { t := [(0, _, _), (4, _, _), (5, _, _), (6, _, _), (24, _, _)], bx := [((.bd 217093 4), _)], ow := [((.b (.bd 217093 4) 1), _)] }) (sub_mk (⟨sx rfl, ⟨sx rfl, ⟨sx rfl, ⟨sx rfl, ⟨sx rfl, trivial⟩⟩⟩⟩⟩) (⟨sx rfl, trivial⟩) (⟨rfl, trivial⟩)) ?_
      refine awp_cond rfl (fun hc3 => ?_) (fun hc3 => ?_)
      · try simp only [nn] at hc3
        rw [if_pos (by omega)] at hi
        refine awp_seq (awp_region ?_)
        refine al_pure rfl rfl rfl (pure_move rfl gU) ?_
        refine al_pure rfl rfl rfl (pure_arith rfl rfl gU gU rfl (IntWalk.i64_in _ (by omega))) ?_
        refine al_pure rfl rfl rfl (pure_assign rfl gU) ?_
        refine al_nil ?_
        refine awp_seq ?_
        refine awp_seq (awp_region ?_)
        refine al_pure rfl rfl rfl (pure_move rfl gU) ?_
        refine al_pure rfl rfl rfl (pure_move rfl gU) ?_
        refine al_lenS rfl rfl rfl rfl rfl gU (Tryd.underlying9) ?_ (fun hh => by simp at hh); intro hlen
        refine al_pure rfl rfl rfl (pure_cmp rfl rfl gU gU rfl) ?_
        refine al_nil ?_
        refine awp_sub (s := { t := [(0, _, _), (4, _, _), (5, _, _), (32, _, _)], bx := [((.bd 217093 4), _)], ow := [((.b (.bd 217093 4) 1), _)] }) (sub_mk (⟨sx rfl, ⟨sx rfl, ⟨sx rfl, ⟨sx rfl, trivial⟩⟩⟩⟩) (⟨sx rfl, trivial⟩) (⟨rfl, trivial⟩)) ?_
        refine awp_cond rfl (fun hc4 => ?_) (fun hc4 => ?_)
        · try simp only [nn] at hc4
          rw [escE_end (by omega), if_pos rfl] at hi
          refine awp_seq (awp_region ?_)
          refine al_pure rfl rfl rfl (pure_assign rfl gU) ?_
          refine al_pure rfl rfl rfl (pure_assign rfl gU) ?_
          refine al_nil ?_
          refine awp_ret ?_
          repeat (first | refine tR ?_ | refine bR ?_)
          refine ret_ok rfl ?_ trivial
          (rw [← hi]; rfl)
        · try simp only [nn] at hc4
          have he := escE_at (s := s) (k := k + 1) (by omega)
          refine awp_skip ?_
          refine awp_seq (awp_region ?_)
          refine al_pure rfl rfl rfl (pure_move rfl gU) ?_
          refine al_pure rfl rfl rfl (pure_move rfl gU) ?_
          refine al_pure rfl rfl rfl (pure_indexSg (j := k + 1) rfl rfl gU gU Tryd.underlying9 (by omega) (fun hh => by omega)) ?_
          refine al_nil ?_
          refine awp_block ?_
          refine awp_seq (awp_region ?_)
          refine al_pure rfl rfl rfl (pure_cmp rfl rfl gU gU rfl) ?_
          refine al_pure rfl rfl rfl (pure_assign rfl gU) ?_
          refine al_nil ?_
          refine awp_sub (s := { t := [(0, _, _), (4, _, _), (5, _, _), (35, _, _), (36, _, _)], bx := [((.bd 217093 4), _)], ow := [((.b (.bd 217093 4) 1), _)] }) (sub_mk (⟨sx rfl, ⟨sx rfl, ⟨sx rfl, ⟨sx rfl, ⟨sx rfl, trivial⟩⟩⟩⟩⟩) (⟨sx rfl, trivial⟩) (⟨rfl, trivial⟩)) ?_
          refine awp_cond rfl (fun hc5 => ?_) (fun hc5 => ?_)
          · try simp only [nn] at hc5
            rw [if_pos (by omega)] at he
            rw [he, if_neg (by simp)] at hi
            refine awp_region ?_
            refine al_bwb bds (c := 10) rfl rfl rfl rfl rfl rfl rfl rfl rfl (by (try simp only [List.length_append, List.length_singleton]); omega) ?_
            refine al_nil ?_
            refine awp_region ?_
            refine al_pure rfl rfl rfl (pure_move rfl gU) ?_
            refine al_pure rfl rfl rfl (pure_arith rfl rfl gU gU rfl (IntWalk.i64_in _ (by omega))) ?_
            refine al_pure rfl rfl rfl (pure_assign rfl gU) ?_
            refine al_nil ?_
            refine ⟨(k + 2, out ++ [10]), ?_, ?_, sub_mk (⟨⟨_, rfl, ?_⟩, ⟨sx rfl, ⟨sx rfl, trivial⟩⟩⟩) (⟨⟨_, rfl, ?_⟩, trivial⟩) (⟨rfl, trivial⟩)⟩
            all_goals (first | rfl | omega | (refine ⟨by omega, by simp; omega, n, by omega, hi⟩))
          · try simp only [nn] at hc5
            rw [if_neg (by omega)] at he
            refine awp_seq (awp_region ?_)
            refine al_pure rfl rfl rfl (pure_cmp rfl rfl gU gU rfl) ?_
            refine al_pure rfl rfl rfl (pure_assign rfl gU) ?_
            refine al_nil ?_
            refine awp_cond rfl (fun hc6 => ?_) (fun hc6 => ?_)
            · try simp only [nn] at hc6
              rw [if_pos (by omega)] at he
              rw [he, if_neg (by simp)] at hi
              refine awp_region ?_
              refine al_bwb bds (c := 9) rfl rfl rfl rfl rfl rfl rfl rfl rfl (by (try simp only [List.length_append, List.length_singleton]); omega) ?_
              refine al_nil ?_
              refine awp_region ?_
              refine al_pure rfl rfl rfl (pure_move rfl gU) ?_
              refine al_pure rfl rfl rfl (pure_arith rfl rfl gU gU rfl (IntWalk.i64_in _ (by omega))) ?_
              refine al_pure rfl rfl rfl (pure_assign rfl gU) ?_
              refine al_nil ?_
              refine ⟨(k + 2, out ++ [9]), ?_, ?_, sub_mk (⟨⟨_, rfl, ?_⟩, ⟨sx rfl, ⟨sx rfl, trivial⟩⟩⟩) (⟨⟨_, rfl, ?_⟩, trivial⟩) (⟨rfl, trivial⟩)⟩
              all_goals (first | rfl | omega | (refine ⟨by omega, by simp; omega, n, by omega, hi⟩))
            · try simp only [nn] at hc6
              rw [if_neg (by omega)] at he
              refine awp_seq ?_
              refine awp_seq (awp_region ?_)
              refine al_pure rfl rfl rfl (pure_cmp rfl rfl gU gU rfl) ?_
              refine al_pure rfl rfl rfl (pure_assign rfl gU) ?_
              refine al_nil ?_
              refine awp_cond rfl (fun hc7 => ?_) (fun hc7 => ?_)
              · try simp only [nn] at hc7
                rw [if_pos (by omega)] at he
                rw [he, if_neg (by simp)] at hi
                refine awp_skip ?_
                refine awp_cond rfl (fun hc8 => ?_) (fun hc8 => ?_)
                · try simp only [nn] at hc8
                  refine awp_region ?_
                  refine al_pure rfl rfl rfl (pure_move rfl gU) ?_
                  refine al_pure rfl rfl rfl (pure_move rfl gU) ?_
                  refine al_pure rfl rfl rfl (pure_indexSg (j := k + 1) rfl rfl gU gU Tryd.underlying9 (by omega) (fun hh => by omega)) ?_
                  refine al_bwb bds (c := s.getD (k + 1) 0) rfl rfl rfl rfl rfl rfl (by rfl) rfl rfl (by (try simp only [List.length_append, List.length_singleton]); omega) ?_
                  refine al_nil ?_
                  refine awp_sub (s := { t := [(0, _, _), (4, _, _), (5, _, _)], bx := [((.bd 217093 4), _)], ow := [((.b (.bd 217093 4) 1), _)] }) (sub_mk (⟨sx rfl, ⟨sx rfl, ⟨sx rfl, trivial⟩⟩⟩) (⟨sx rfl, trivial⟩) (⟨rfl, trivial⟩)) ?_
                  refine awp_region ?_
                  refine al_pure rfl rfl rfl (pure_move rfl gU) ?_
                  refine al_pure rfl rfl rfl (pure_arith rfl rfl gU gU rfl (IntWalk.i64_in _ (by omega))) ?_
                  refine al_pure rfl rfl rfl (pure_assign rfl gU) ?_
                  refine al_nil ?_
                  refine ⟨(k + 2, out ++ [s.getD (k + 1) 0]), ?_, ?_, sub_mk (⟨⟨_, rfl, ?_⟩, ⟨sx rfl, ⟨sx rfl, trivial⟩⟩⟩) (⟨⟨_, rfl, ?_⟩, trivial⟩) (⟨rfl, trivial⟩)⟩
                  all_goals (first | rfl | omega | (refine ⟨by omega, by simp; omega, n, by omega, hi⟩))
                · try simp only [nn] at hc8
                  exfalso; omega
              · try simp only [nn] at hc7
                refine awp_region ?_
                refine al_pure rfl rfl rfl (pure_cmp rfl rfl gU gU rfl) ?_
                refine al_pure rfl rfl rfl (pure_assign rfl gU) ?_
                refine al_nil ?_
                refine awp_sub (s := { t := [(0, _, _), (4, _, _), (5, _, _), (35, _, _), (42, _, _)], bx := [((.bd 217093 4), _)], ow := [((.b (.bd 217093 4) 1), _)] }) (sub_mk (⟨sx rfl, ⟨sx rfl, ⟨sx rfl, ⟨sx rfl, ⟨sx rfl, trivial⟩⟩⟩⟩⟩) (⟨sx rfl, trivial⟩) (⟨rfl, trivial⟩)) ?_
                refine awp_cond rfl (fun hc8 => ?_) (fun hc8 => ?_)
                · try simp only [nn] at hc8
                  rw [if_pos (by omega)] at he
                  rw [he, if_neg (by simp)] at hi
                  refine awp_region ?_
                  refine al_pure rfl rfl rfl (pure_move rfl gU) ?_
                  refine al_pure rfl rfl rfl (pure_move rfl gU) ?_
                  refine al_pure rfl rfl rfl (pure_indexSg (j := k + 1) rfl rfl gU gU Tryd.underlying9 (by omega) (fun hh => by omega)) ?_
                  refine al_bwb bds (c := s.getD (k + 1) 0) rfl rfl rfl rfl rfl rfl (by rfl) rfl rfl (by (try simp only [List.length_append, List.length_singleton]); omega) ?_
                  refine al_nil ?_
                  refine awp_region ?_
                  refine al_pure rfl rfl rfl (pure_move rfl gU) ?_
                  refine al_pure rfl rfl rfl (pure_arith rfl rfl gU gU rfl (IntWalk.i64_in _ (by omega))) ?_
                  refine al_pure rfl rfl rfl (pure_assign rfl gU) ?_
                  refine al_nil ?_
                  refine ⟨(k + 2, out ++ [s.getD (k + 1) 0]), ?_, ?_, sub_mk (⟨⟨_, rfl, ?_⟩, ⟨sx rfl, ⟨sx rfl, trivial⟩⟩⟩) (⟨⟨_, rfl, ?_⟩, trivial⟩) (⟨rfl, trivial⟩)⟩
                  all_goals (first | rfl | omega | (refine ⟨by omega, by simp; omega, n, by omega, hi⟩))
                · try simp only [nn] at hc8
                  rw [if_neg (by omega)] at he
                  refine awp_seq (awp_region ?_)
                  refine al_pure rfl rfl rfl (pure_cmp rfl rfl gU gU rfl) ?_
                  refine al_pure rfl rfl rfl (pure_assign rfl gU) ?_
                  refine al_nil ?_
                  refine awp_cond rfl (fun hc9 => ?_) (fun hc9 => ?_)
                  · try simp only [nn] at hc9
                    refine awp_seq ?_
                    refine awp_seq (awp_region ?_)
                    refine al_pure rfl rfl rfl (pure_move rfl gU) ?_
                    refine al_pure rfl rfl rfl (pure_arith rfl rfl gU gU rfl (IntWalk.i64_in _ (by omega))) ?_
                    refine al_pure rfl rfl rfl (pure_move rfl gU) ?_
                    refine al_lenS rfl rfl rfl rfl rfl gU (Tryd.underlying9) ?_ (fun hh => by simp at hh); intro hlen
                    refine al_pure rfl rfl rfl (pure_cmp rfl rfl gU gU rfl) ?_
                    refine al_nil ?_
                    refine awp_sub (s := { t := [(0, _, _), (4, _, _), (5, _, _), (55, _, _)], bx := [((.bd 217093 4), _)], ow := [((.b (.bd 217093 4) 1), _)] }) (sub_mk (⟨sx rfl, ⟨sx rfl, ⟨sx rfl, ⟨sx rfl, trivial⟩⟩⟩⟩) (⟨sx rfl, trivial⟩) (⟨rfl, trivial⟩)) ?_
                    refine awp_cond rfl (fun hca => ?_) (fun hca => ?_)
                    · try simp only [nn] at hca
                      rw [if_neg (by omega)] at he
                      rw [he, if_pos rfl] at hi
                      refine awp_seq (awp_region ?_)
                      refine al_pure rfl rfl rfl (pure_assign rfl gU) ?_
                      refine al_pure rfl rfl rfl (pure_assign rfl gU) ?_
                      refine al_nil ?_
                      refine awp_ret ?_
                      repeat (first | refine tR ?_ | refine bR ?_)
                      refine ret_ok rfl ?_ trivial
                      (rw [← hi]; rfl)
                    · try simp only [nn] at hca
                      refine awp_skip ?_
                      refine awp_seq ?_
                      refine awp_drawn' (by kernel_rfl) ?_
                      refine dr_pure rfl rfl rfl rfl (pure_move rfl gU) ?_
                      refine dr_pure rfl rfl rfl rfl (pure_move rfl gU) ?_
                      refine dr_pure rfl rfl rfl rfl (pure_arith rfl rfl gU gU rfl (IntWalk.i64_in _ (by omega))) ?_
                      refine dr_pure rfl rfl rfl rfl (pure_indexSg (j := k + 1 + 1) rfl rfl gU gU Tryd.underlying9 (by omega) (fun hh => by omega)) ?_
                      refine dr_callN rfl rfl rfl rfl rfl rfl rfl gU gU (indexByte_spec hexs _ _ rfl) rfl ?_
                      refine dr_pure rfl rfl rfl rfl (pure_move rfl gU) ?_
                      refine dr_pure rfl rfl rfl rfl (pure_move rfl gU) ?_
                      refine dr_pure rfl rfl rfl rfl (pure_arith rfl rfl gU gU rfl (IntWalk.i64_in _ (by omega))) ?_
                      refine dr_pure rfl rfl rfl rfl (pure_indexSg (j := k + 1 + 2) rfl rfl gU gU Tryd.underlying9 (by omega) (fun hh => by omega)) ?_
                      refine dr_callN rfl rfl rfl rfl rfl rfl rfl gU gU (indexByte_spec hexs _ _ rfl) rfl ?_
                      refine dr_pure rfl rfl rfl rfl (pure_assign rfl gU) ?_
                      refine dr_pure rfl rfl rfl rfl (pure_assign rfl gU) ?_
                      refine dr_nil (by kernel_rfl) ?_
                      refine awp_sub (s := { t := [(0, _, _), (4, _, _), (5, _, _), (7, _, _), (8, _, _)], bx := [((.bd 217093 4), _)], ow := [((.b (.bd 217093 4) 1), _)] }) (sub_mk (⟨sx rfl, ⟨sx rfl, ⟨sx rfl, ⟨sx rfl, ⟨sx rfl, trivial⟩⟩⟩⟩⟩) (⟨sx rfl, trivial⟩) (⟨(ak rfl (ak rfl (ak rfl (ak rfl (ak rfl (ak rfl (ak rfl (ak rfl (ak rfl (ak rfl (ak rfl (ak rfl (rfl))))))))))))), trivial⟩)) ?_
                      refine awp_seq ?_
                      refine awp_seq (awp_region ?_)
                      refine al_pure rfl rfl rfl (pure_move rfl gU) ?_
                      refine al_pure rfl rfl rfl (pure_cmp rfl rfl gU gU rfl) ?_
                      refine al_pure rfl rfl rfl (pure_move rfl gU) ?_
                      refine al_pure rfl rfl rfl (pure_move rfl gU) ?_
                      refine al_pure rfl rfl rfl (pure_cmp rfl rfl (fun hh => hh) gU rfl) ?_
                      refine al_pure rfl rfl rfl (pure_or rfl rfl gU (fun _ hi => gP rfl hi)) ?_
                      refine al_nil ?_
                      refine awp_sub (s := { t := [(0, _, _), (4, _, _), (5, _, _), (7, _, _), (8, _, _), (71, _, _)], bx := [((.bd 217093 4), _)], ow := [((.b (.bd 217093 4) 1), _)] }) (sub_mk (⟨sx rfl, ⟨sx rfl, ⟨sx rfl, ⟨sx rfl, ⟨sx rfl, ⟨sx rfl, trivial⟩⟩⟩⟩⟩⟩) (⟨sx rfl, trivial⟩) (⟨rfl, trivial⟩)) ?_
                      refine awp_cond rfl (fun hcb => ?_) (fun hcb => ?_)
                      · try simp only [nn] at hcb
                        have hx : ¬(hexB (s.getD (k + 1 + 1) 0) = true ∧ hexB (s.getD (k + 1 + 2) 0) = true) := by
                          intro q
                          rcases hcb with hq | hq
                          · exact hex_neg' hq q.1
                          · exact hex_neg' hq q.2
                        rw [if_neg (fun q => hx q.2.2)] at he
                        rw [he, if_pos rfl] at hi
                        refine awp_seq (awp_region ?_)
                        refine al_pure rfl rfl rfl (pure_assign rfl gU) ?_
                        refine al_pure rfl rfl rfl (pure_assign rfl gU) ?_
                        refine al_nil ?_
                        refine awp_ret ?_
                        repeat (first | refine tR ?_ | refine bR ?_)
                        refine ret_ok rfl ?_ trivial
                        (rw [← hi]; rfl)
                      · try simp only [nn] at hcb
                        obtain ⟨x1, x2⟩ := hex_neg (c := s.getD (k + 1 + 1) 0) (by omega)
                        obtain ⟨y1, y2⟩ := hex_neg (c := s.getD (k + 1 + 2) 0) (by omega)
                        have x3 := hexV_le x1
                        have y3 := hexV_le y1
                        rw [if_pos ⟨by omega, by omega, x1, y1⟩] at he
                        rw [he, if_neg (by simp)] at hi
                        refine awp_skip ?_
                        refine awp_seq (awp_region ?_)
                        refine al_pure rfl rfl rfl (pure_move rfl gU) ?_
                        refine al_pure rfl rfl rfl (pure_arith rfl rfl gU gU rfl (IntWalk.i64_in _ (by omega))) ?_
                        refine al_pure rfl rfl rfl (pure_move rfl gU) ?_
                        refine al_pure rfl rfl rfl (pure_arith rfl rfl gU gU rfl (IntWalk.i64_in _ (by omega))) ?_
                        refine al_pure rfl rfl rfl (pure_convInt rfl gU ⟨_, Tryd.underlying3⟩ (Tryd.underlying5) (IntWalk.u8_in _ (by omega))) ?_
                        refine al_bwb bds (c := UInt8.ofNat (16 * hexV (s.getD (k + 1 + 1) 0) + hexV (s.getD (k + 1 + 2) 0)).toNat) rfl rfl rfl rfl rfl rfl (by exact u8_nat (by omega) (by omega)) rfl rfl (by (try simp only [List.length_append, List.length_singleton]); omega) ?_
                        refine al_nil ?_
                        refine awp_sub (s := { t := [(0, _, _), (4, _, _), (5, _, _)], bx := [((.bd 217093 4), _)], ow := [((.b (.bd 217093 4) 1), _)] }) (sub_mk (⟨sx rfl, ⟨sx rfl, ⟨sx rfl, trivial⟩⟩⟩) (⟨sx rfl, trivial⟩) (⟨rfl, trivial⟩)) ?_
                        refine awp_region ?_
                        refine al_pure rfl rfl rfl (pure_move rfl gU) ?_
                        refine al_pure rfl rfl rfl (pure_arith rfl rfl gU gU rfl (IntWalk.i64_in _ (by omega))) ?_
                        refine al_pure rfl rfl rfl (pure_assign rfl gU) ?_
                        refine al_nil ?_
                        refine awp_region ?_
                        refine al_pure rfl rfl rfl (pure_move rfl gU) ?_
                        refine al_pure rfl rfl rfl (pure_arith rfl rfl gU gU rfl (IntWalk.i64_in _ (by omega))) ?_
                        refine al_pure rfl rfl rfl (pure_assign rfl gU) ?_
                        refine al_nil ?_
                        refine ⟨(k + 4, out ++ [UInt8.ofNat (16 * hexV (s.getD (k + 1 + 1) 0) + hexV (s.getD (k + 1 + 2) 0)).toNat]), ?_, ?_, sub_mk (⟨⟨_, rfl, ?_⟩, ⟨sx rfl, ⟨sx rfl, trivial⟩⟩⟩) (⟨⟨_, rfl, ?_⟩, trivial⟩) (⟨rfl, trivial⟩)⟩
                        all_goals (first | rfl | omega | (refine ⟨by omega, by simp; omega, n, by omega, hi⟩))
                  · try simp only [nn] at hc9
                    rw [if_neg (by omega)] at he
                    rw [he, if_pos rfl] at hi
                    refine awp_seq (awp_region ?_)
                    refine al_pure rfl rfl rfl (pure_assign rfl gU) ?_
                    refine al_pure rfl rfl rfl (pure_assign rfl gU) ?_
                    refine al_nil ?_
                    refine awp_ret ?_
                    repeat (first | refine tR ?_ | refine bR ?_)
                    refine ret_ok rfl ?_ trivial
                    (rw [← hi]; rfl)
      · try simp only [nn] at hc3
        rw [if_neg (by omega)] at hi
        refine awp_seq (awp_region ?_)
        refine al_pure rfl rfl rfl (pure_move rfl gU) ?_
        refine al_pure rfl rfl rfl (pure_cmp rfl rfl gU gU rfl) ?_
        refine al_pure rfl rfl rfl (pure_move rfl gU) ?_
        refine al_pure rfl rfl rfl (pure_move rfl gU) ?_
        refine al_pure rfl rfl rfl (pure_cmp rfl rfl (fun hh => hh) gU rfl) ?_
        refine al_pure rfl rfl rfl (pure_and rfl rfl gU (fun _ hi => gP rfl hi)) ?_
        refine al_pure rfl rfl rfl (pure_assign rfl gU) ?_
        refine al_nil ?_
        refine awp_sub (s := { t := [(0, _, _), (4, _, _), (5, _, _), (6, _, _), (80, _, _)], bx := [((.bd 217093 4), _)], ow := [((.b (.bd 217093 4) 1), _)] }) (sub_mk (⟨sx rfl, ⟨sx rfl, ⟨sx rfl, ⟨sx rfl, ⟨sx rfl, trivial⟩⟩⟩⟩⟩) (⟨sx rfl, trivial⟩) (⟨rfl, trivial⟩)) ?_
        refine awp_cond rfl (fun hc4 => ?_) (fun hc4 => ?_)
        · try simp only [nn] at hc4
          rw [if_neg (by omega)] at hi
          refine awp_region ?_
          refine al_pure rfl rfl rfl (pure_move rfl gU) ?_
          refine al_bwb bds (c := s.getD k 0) rfl rfl rfl rfl rfl rfl (by rfl) rfl rfl (by (try simp only [List.length_append, List.length_singleton]); omega) ?_
          refine al_nil ?_
          refine awp_region ?_
          refine al_pure rfl rfl rfl (pure_move rfl gU) ?_
          refine al_pure rfl rfl rfl (pure_arith rfl rfl gU gU rfl (IntWalk.i64_in _ (by omega))) ?_
          refine al_pure rfl rfl rfl (pure_assign rfl gU) ?_
          refine al_nil ?_
          refine ⟨(k + 1, out ++ [s.getD k 0]), ?_, ?_, sub_mk (⟨⟨_, rfl, ?_⟩, ⟨sx rfl, ⟨sx rfl, trivial⟩⟩⟩) (⟨⟨_, rfl, ?_⟩, trivial⟩) (⟨rfl, trivial⟩)⟩
          all_goals (first | rfl | omega | (refine ⟨by omega, by simp; omega, n, by omega, hi⟩))
        · try simp only [nn] at hc4
          rw [if_pos (by omega)] at hi
          refine awp_seq (awp_region ?_)
          refine al_pure rfl rfl rfl (pure_assign rfl gU) ?_
          refine al_pure rfl rfl rfl (pure_assign rfl gU) ?_
          refine al_nil ?_
          refine awp_ret ?_
          repeat (first | refine tR ?_ | refine bR ?_)
          refine ret_ok rfl ?_ trivial
          (rw [← hi]; rfl)
  · try simp only [nn] at hc
    rw [litA_nil (List.drop_of_length_le (by omega))] at hi
    refine awp_exit ?_
    repeat (first | refine thenS_exit ?_ | refine blockS_hit ?_ | refine blockS_miss rfl ?_)
    refine awp_seq (awp_region ?_)
    refine al_pure rfl rfl rfl (pure_assign rfl gU) ?_
    refine al_pure rfl rfl rfl (pure_assign rfl gU) ?_
    refine al_nil ?_
    refine awp_ret ?_
    repeat (first | refine tR ?_ | refine bR ?_)
    refine ret_ok rfl ?_ trivial
    (rw [← hi]; rfl)
end Go.Proofs.YtiiboiomiacibaaDoor
/- Contracts: the next token, as the lexer reads it. -/
set_option linter.unusedVariables false
set_option linter.unusedSimpArgs false
namespace Go.Proofs.YtiiboiomiacibaaDoor
open Go Go.Abs
theorem digitB_le {n : Int} (h : digitB n = true) : 48 ≤ n ∧ n ≤ 57 := by simpa [digitB] using h
theorem next_spec (s : List UInt8) (h : 0 < s.length) (hs : s.length ≤ 1000000) : Ctr sys 32 [xs s] [] (xnx (nextE s)) none [] := by
  have h1 := nlE_le h
  have h3 := litE_le s h
  refine spec_intro Tryd.func32 rfl rfl rfl rfl rfl rfl ?_
  refine awp_seq (awp_region ?_)
  refine al_do rfl (does_alloc rfl rfl rfl) ?_
  refine al_pure rfl rfl rfl (pure_assign rfl gU) ?_
  refine al_pure rfl rfl rfl (pure_assign rfl gU) ?_
  refine al_nil ?_
  refine awp_seq ?_
  refine awp_seq (awp_region ?_)
  refine al_pure rfl rfl rfl (pure_move rfl gU) ?_
  refine al_pure rfl rfl rfl (pure_indexSg (j := 0) rfl rfl gU gU Tryd.underlying9 (by first | omega | (simp at hh ⊢; omega)) (fun hh => by first | omega | (simp at hh ⊢; omega))) ?_
  refine al_pure rfl rfl rfl (pure_assign rfl gU) ?_
  refine al_nil ?_
  refine awp_sub (s := { t := [(0, _, _), (2, _, _), (5, _, _)], bx := [((.l 2), _)], ow := [] }) (sub_mk (⟨sx rfl, ⟨sx rfl, ⟨sx rfl, trivial⟩⟩⟩) (⟨sx rfl, trivial⟩) trivial) ?_
  refine awp_block ?_
  refine awp_seq (awp_region ?_)
  refine al_pure rfl rfl rfl (pure_move rfl gU) ?_
  refine al_call rfl rfl rfl rfl rfl rfl gU gU (lletter_spec _) rfl ?_
  refine al_pure rfl rfl rfl (pure_assign rfl gU) ?_
  refine al_nil ?_
  refine awp_cond rfl (fun hc => ?_) (fun hc => ?_)
  · try simp only [nn] at hc
    rw [nextE, if_pos hc]
    refine awp_seq (awp_region ?_)
    refine al_pure rfl rfl rfl (pure_move rfl gU) ?_
    refine al_call rfl rfl rfl rfl rfl rfl gU gU (nameLength_spec _ (by omega)) rfl ?_
    refine al_pure rfl rfl rfl (pure_assign rfl gU) ?_
    refine al_nil ?_
    refine awp_sub (s := { t := [(0, _, _), (2, _, _), (6, _, _)], bx := [((.l 2), _)], ow := [] }) (sub_mk (⟨sx rfl, ⟨sx rfl, ⟨sx rfl, trivial⟩⟩⟩) (⟨sx rfl, trivial⟩) trivial) ?_
    refine awp_seq ?_
    refine awp_seq (awp_region ?_)
    refine al_pure rfl rfl rfl (pure_move rfl gU) ?_
    refine al_pure rfl rfl rfl (pure_cmp rfl rfl gU gU rfl) ?_
    refine al_nil ?_
    refine awp_cond rfl (fun hc2 => ?_) (fun hc2 => ?_)
    · try simp only [nn] at hc2
      refine awp_seq (awp_region ?_)
      refine al_pure rfl rfl rfl (pure_build rfl Tryd.underlying37 rfl gU) ?_
      refine al_do rfl (does_store rfl rfl rfl rfl rfl rfl rfl) ?_
      refine al_pure rfl rfl rfl (pure_assign rfl gU) ?_
      refine al_pure rfl rfl rfl (pure_assign rfl gU) ?_
      refine al_nil ?_
      refine awp_ret ?_
      repeat (first | refine tR ?_ | refine bR ?_)
      refine ret_ok rfl ?_ trivial
      (rw [if_pos (by omega)]; rfl)
    · try simp only [nn] at hc2
      refine awp_skip ?_
      refine awp_seq (awp_region ?_)
      refine al_pure rfl rfl rfl (pure_move rfl gU) ?_
      refine al_pure rfl rfl rfl (pure_move rfl gU) ?_
      refine al_pure rfl rfl rfl (pure_sliceS (h' := (nlE s)) rfl gU Tryd.underlying9 (fun _ => rfl) (fun _ => ⟨_, _, _, rfl, gU, by first | omega | (simp at hh ⊢; omega)⟩) (fun hh => by first | omega | (simp at hh ⊢; omega)) (fun hh => by first | omega | (simp at hh ⊢; omega))) ?_
      refine al_pure rfl rfl rfl (pure_build rfl Tryd.underlying37 rfl gU) ?_
      refine al_pure rfl rfl rfl (pure_move rfl gU) ?_
      refine al_do rfl (does_store rfl rfl rfl rfl rfl rfl rfl) ?_
      refine al_pure rfl rfl rfl (pure_assign rfl gU) ?_
      refine al_pure rfl rfl rfl (pure_assign rfl gU) ?_
      refine al_nil ?_
      refine awp_ret ?_
      repeat (first | refine tR ?_ | refine bR ?_)
      refine ret_ok rfl ?_ trivial
      (rw [if_neg (by omega)]; rfl)
  · try simp only [nn] at hc
    rw [nextE, if_neg (by rw [hc]; exact Bool.false_ne_true)]
    refine awp_seq (awp_region ?_)
    refine al_pure rfl rfl rfl (pure_move rfl gU) ?_
    refine al_call rfl rfl rfl rfl rfl rfl gU gU (ldigit_spec _) rfl ?_
    refine al_pure rfl rfl rfl (pure_assign rfl gU) ?_
    refine al_nil ?_
    refine awp_sub (s := { t := [(0, _, _), (2, _, _), (5, _, _), (27, _, _)], bx := [((.l 2), _)], ow := [] }) (sub_mk (⟨sx rfl, ⟨sx rfl, ⟨sx rfl, ⟨sx rfl, trivial⟩⟩⟩⟩) (⟨sx rfl, trivial⟩) trivial) ?_
    refine awp_cond rfl (fun hc2 => ?_) (fun hc2 => ?_)
    · try simp only [nn] at hc2
      rw [if_pos hc2]
      refine awp_seq (awp_region ?_)
      refine al_pure rfl rfl rfl (pure_assign rfl gU) ?_
      refine al_pure rfl rfl rfl (pure_assign rfl gU) ?_
      refine al_nil ?_
      refine awp_seq ?_
      refine awp_block ?_
      refine awp_for (ι := Nat × Int) { t := [(0, _, _), (2, _, _)], bx := [((.l 2), _)], ow := [] } (fun p => [(7, true, xi (p.1 : Int)), (8, true, xi p.2)]) (fun p => []) (fun p => p.1 ≤ s.length ∧ 0 ≤ p.2 ∧ p.2 ≤ 9223372036854775807 ∧ numA (s.drop p.1) p.1 p.2 = numA s 0 0) (fun p => s.length - p.1) ((0, 0)) (⟨by simp, by simp, by simp, rfl⟩) (sub_mk (⟨sx rfl, ⟨sx rfl, ⟨sx rfl, ⟨sx rfl, trivial⟩⟩⟩⟩) (⟨sx rfl, trivial⟩) trivial) ?_
      intro p hok
      dsimp only [List.cons_append, List.nil_append] at *
      obtain ⟨k, v⟩ := p
      dsimp only at hok ⊢
      obtain ⟨hk, hv0, hv1, hi⟩ := hok
      refine awp_seq ?_
      refine awp_seq (awp_region ?_)
      refine al_pure rfl rfl rfl (pure_move rfl gU) ?_
      refine al_pure rfl rfl rfl (pure_move rfl gU) ?_
      refine al_lenS rfl rfl rfl rfl rfl gU (Tryd.underlying9) ?_ (fun hh => by simp at hh); intro hlen
      refine al_pure rfl rfl rfl (pure_cmp rfl rfl gU gU rfl) ?_
      refine al_pure rfl rfl rfl (pure_move rfl gU) ?_
      refine al_pure rfl rfl rfl (pure_move rfl gU) ?_
      refine al_pure rfl rfl rfl (pure_move rfl gU) ?_
      refine al_pure rfl rfl rfl (pure_indexSg (j := k) rfl rfl (fun hh => hh) (fun hh => hh) Tryd.underlying9 (by first | omega | (simp at hh ⊢; omega)) (fun hh => by first | omega | (simp at hh ⊢; omega))) ?_
      refine al_call rfl rfl rfl rfl rfl rfl gU (fun hh => gA ((fun hh => hh) hh) (rfl)) (ldigit_spec _) rfl ?_
      refine al_pure rfl rfl rfl (pure_and rfl rfl gU (fun _ hi => gP rfl hi)) ?_
      refine al_nil ?_
      refine awp_sub (s := { t := [(0, _, _), (2, _, _), (7, _, _), (8, _, _), (39, _, _)], bx := [((.l 2), _)], ow := [] }) (sub_mk (⟨sx rfl, ⟨sx rfl, ⟨sx rfl, ⟨sx rfl, ⟨sx rfl, trivial⟩⟩⟩⟩⟩) (⟨sx rfl, trivial⟩) trivial) ?_
      refine awp_cond rfl (fun hc3 => ?_) (fun hc3 => ?_)
      · try simp only [nn] at hc3
        have hd := digitB_le hc3.2
        rw [drop_get0 (by omega), numA, if_pos hc3.2] at hi
        refine awp_skip ?_
        refine awp_block ?_
        refine awp_seq (awp_region ?_)
        refine al_pure rfl rfl rfl (pure_move rfl gU) ?_
        refine al_pure rfl rfl rfl (pure_move rfl gU) ?_
        refine al_pure rfl rfl rfl (pure_indexSg (j := k) rfl rfl gU gU Tryd.underlying9 (by first | omega | (simp at hh ⊢; omega)) (fun hh => by first | omega | (simp at hh ⊢; omega))) ?_
        refine al_pure rfl rfl rfl (pure_arith rfl rfl gU gU rfl (IntWalk.u8_in _ (by omega))) ?_
        refine al_pure rfl rfl rfl (pure_convInt rfl gU ⟨_, Tryd.underlying5⟩ (Tryd.underlying2) (IntWalk.i64_in _ (by omega))) ?_
        refine al_pure rfl rfl rfl (pure_assign rfl gU) ?_
        refine al_nil ?_
        refine awp_sub (s := { t := [(0, _, _), (2, _, _), (7, _, _), (8, _, _), (9, _, _)], bx := [((.l 2), _)], ow := [] }) (sub_mk (⟨sx rfl, ⟨sx rfl, ⟨sx rfl, ⟨sx rfl, ⟨sx rfl, trivial⟩⟩⟩⟩⟩) (⟨sx rfl, trivial⟩) trivial) ?_
        refine awp_seq ?_
        refine awp_seq (awp_region ?_)
        refine al_pure rfl rfl rfl (pure_move rfl gU) ?_
        refine al_pure rfl rfl rfl (pure_move rfl gU) ?_
        refine al_pure rfl rfl rfl (pure_arith rfl rfl gU gU rfl (IntWalk.i64_in _ (by omega))) ?_
        refine al_pure rfl rfl rfl (pure_quoG rfl rfl gU gU (fun hh => by first | omega | (simp at hh ⊢; omega)) (fun hh => (congrArg IntKind.i64.wrap (Int.tdiv_eq_ediv_of_nonneg (by first | omega | (simp at hh ⊢; omega)))).trans (IntWalk.i64_in _ (by omega)))) ?_
        refine al_pure rfl rfl rfl (pure_cmp rfl rfl gU gU rfl) ?_
        refine al_nil ?_
        refine awp_sub (s := { t := [(0, _, _), (2, _, _), (7, _, _), (8, _, _), (9, _, _), (49, _, _)], bx := [((.l 2), _)], ow := [] }) (sub_mk (⟨sx rfl, ⟨sx rfl, ⟨sx rfl, ⟨sx rfl, ⟨sx rfl, ⟨sx rfl, trivial⟩⟩⟩⟩⟩⟩) (⟨sx rfl, trivial⟩) trivial) ?_
        refine awp_cond rfl (fun hc4 => ?_) (fun hc4 => ?_)
        · try simp only [nn] at hc4
          rw [if_pos (by omega)] at hi
          refine awp_seq (awp_region ?_)
          refine al_pure rfl rfl rfl (pure_build rfl Tryd.underlying37 rfl gU) ?_
          refine al_do rfl (does_store rfl rfl rfl rfl rfl rfl rfl) ?_
          refine al_pure rfl rfl rfl (pure_assign rfl gU) ?_
          refine al_pure rfl rfl rfl (pure_assign rfl gU) ?_
          refine al_nil ?_
          refine awp_ret ?_
          repeat (first | refine tR ?_ | refine bR ?_)
          refine ret_ok rfl ?_ trivial
          (rw [← hi]; rfl)
        · try simp only [nn] at hc4
          rw [if_neg (by omega)] at hi
          refine awp_skip ?_
          refine awp_seq (awp_region ?_)
          refine al_pure rfl rfl rfl (pure_move rfl gU) ?_
          refine al_pure rfl rfl rfl (pure_arith rfl rfl gU gU rfl (IntWalk.i64_in _ (by omega))) ?_
          refine al_pure rfl rfl rfl (pure_move rfl gU) ?_
          refine al_pure rfl rfl rfl (pure_arith rfl rfl gU gU rfl (IntWalk.i64_in _ (by omega))) ?_
          refine al_pure rfl rfl rfl (pure_assign rfl gU) ?_
          refine al_nil ?_
          refine awp_sub (s := { t := [(0, _, _), (2, _, _), (7, _, _), (8, _, _)], bx := [((.l 2), _)], ow := [] }) (sub_mk (⟨sx rfl, ⟨sx rfl, ⟨sx rfl, ⟨sx rfl, trivial⟩⟩⟩⟩) (⟨sx rfl, trivial⟩) trivial) ?_
          refine awp_region ?_
          refine al_pure rfl rfl rfl (pure_move rfl gU) ?_
          refine al_pure rfl rfl rfl (pure_arith rfl rfl gU gU rfl (IntWalk.i64_in _ (by omega))) ?_
          refine al_pure rfl rfl rfl (pure_assign rfl gU) ?_
          refine al_nil ?_
          refine ⟨(k + 1, 10 * v + (((s.getD k 0).toNat : Int) - 48)), ?_, ?_, sub_mk (⟨⟨_, rfl, ?_⟩, ⟨⟨_, rfl, ?_⟩, ⟨sx rfl, ⟨sx rfl, trivial⟩⟩⟩⟩) (⟨sx rfl, trivial⟩) trivial⟩
          all_goals (first | rfl | omega | exact ⟨by omega, by omega, by omega, hi⟩)
      · try simp only [nn] at hc3
        have hn : numA (s.drop k) k v = (true, k, v) := by
          by_cases hlt : k < s.length
          · rw [drop_get0 hlt, numA, if_neg]
            intro q
            rcases hc3 with z | z
            · omega
            · rw [q] at z; simp at z
          · rw [List.drop_of_length_le (by omega)]; rfl
        rw [hn] at hi
        refine awp_exit ?_
        repeat (first | refine thenS_exit ?_ | refine blockS_hit ?_ | refine blockS_miss rfl ?_)
        refine awp_seq (awp_region ?_)
        refine al_pure rfl rfl rfl (pure_move rfl gU) ?_
        refine al_pure rfl rfl rfl (pure_build rfl Tryd.underlying37 rfl gU) ?_
        refine al_pure rfl rfl rfl (pure_move rfl gU) ?_
        refine al_do rfl (does_store rfl rfl rfl rfl rfl rfl rfl) ?_
        refine al_pure rfl rfl rfl (pure_assign rfl gU) ?_
        refine al_pure rfl rfl rfl (pure_assign rfl gU) ?_
        refine al_nil ?_
        refine awp_ret ?_
        repeat (first | refine tR ?_ | refine bR ?_)
        refine ret_ok rfl ?_ trivial
        (rw [← hi]; rfl)
    · try simp only [nn] at hc2
      rw [if_neg (by rw [hc2]; exact Bool.false_ne_true)]
      refine awp_seq (awp_region ?_)
      refine al_pure rfl rfl rfl (pure_move rfl gU) ?_
      refine al_pure rfl rfl rfl (pure_cmp rfl rfl gU gU rfl) ?_
      refine al_pure rfl rfl rfl (pure_assign rfl gU) ?_
      refine al_nil ?_
      refine awp_cond rfl (fun hc3 => ?_) (fun hc3 => ?_)
      · try simp only [nn] at hc3
        rw [if_pos (by omega)]
        refine awp_seq (awp_region ?_)
        refine al_pure rfl rfl rfl (pure_move rfl gU) ?_
        refine al_call rfl rfl rfl rfl rfl rfl gU gU (llit_spec _ (by omega) (by omega)) rfl ?_
        refine al_pure rfl rfl rfl (pure_move rfl gU) ?_
        refine al_pure rfl rfl rfl (pure_extract rfl gU rfl) ?_
        refine al_pure rfl rfl rfl (pure_extract rfl gU rfl) ?_
        refine al_pure rfl rfl rfl (pure_assign rfl gU) ?_
        refine al_pure rfl rfl rfl (pure_assign rfl gU) ?_
        refine al_nil ?_
        refine awp_sub (s := { t := [(2, _, _), (10, _, _), (11, _, _)], bx := [((.l 2), _)], ow := [] }) (sub_mk (⟨sx rfl, ⟨sx rfl, ⟨sx rfl, trivial⟩⟩⟩) (⟨sx rfl, trivial⟩) trivial) ?_
        refine awp_seq ?_
        refine awp_seq (awp_region ?_)
        refine al_pure rfl rfl rfl (pure_move rfl gU) ?_
        refine al_pure rfl rfl rfl (pure_cmp rfl rfl gU gU rfl) ?_
        refine al_nil ?_
        refine awp_cond rfl (fun hc4 => ?_) (fun hc4 => ?_)
        · try simp only [nn] at hc4
          refine awp_seq (awp_region ?_)
          refine al_pure rfl rfl rfl (pure_build rfl Tryd.underlying37 rfl gU) ?_
          refine al_do rfl (does_store rfl rfl rfl rfl rfl rfl rfl) ?_
          refine al_pure rfl rfl rfl (pure_assign rfl gU) ?_
          refine al_pure rfl rfl rfl (pure_assign rfl gU) ?_
          refine al_nil ?_
          refine awp_ret ?_
          repeat (first | refine tR ?_ | refine bR ?_)
          refine ret_ok rfl ?_ trivial
          (rw [if_pos (by omega)]; rfl)
        · try simp only [nn] at hc4
          refine awp_skip ?_
          refine awp_seq (awp_region ?_)
          refine al_pure rfl rfl rfl (pure_move rfl gU) ?_
          refine al_pure rfl rfl rfl (pure_build rfl Tryd.underlying37 rfl gU) ?_
          refine al_pure rfl rfl rfl (pure_move rfl gU) ?_
          refine al_do rfl (does_store rfl rfl rfl rfl rfl rfl rfl) ?_
          refine al_pure rfl rfl rfl (pure_assign rfl gU) ?_
          refine al_pure rfl rfl rfl (pure_assign rfl gU) ?_
          refine al_nil ?_
          refine awp_ret ?_
          repeat (first | refine tR ?_ | refine bR ?_)
          refine ret_ok rfl ?_ trivial
          (rw [if_neg (by omega)]; rfl)
      · try simp only [nn] at hc3
        rw [if_neg (by omega)]
        have hs4 := sym_index (s.getD 0 0)
        refine awp_seq (awp_region ?_)
        refine al_pure rfl rfl rfl (pure_move rfl gU) ?_
        refine al_call rfl rfl rfl rfl rfl rfl gU gU (indexByte_spec syms (s.getD 0 0) _ rfl) rfl ?_
        refine al_pure rfl rfl rfl (pure_cmp rfl rfl gU gU rfl) ?_
        refine al_pure rfl rfl rfl (pure_assign rfl gU) ?_
        refine al_nil ?_
        refine awp_sub (s := { t := [(0, _, _), (2, _, _), (74, _, _)], bx := [((.l 2), _)], ow := [] }) (sub_mk (⟨sx rfl, ⟨sx rfl, ⟨sx rfl, trivial⟩⟩⟩) (⟨sx rfl, trivial⟩) trivial) ?_
        refine awp_cond rfl (fun hc4 => ?_) (fun hc4 => ?_)
        · try simp only [nn] at hc4
          rw [if_pos (by rw [← hs4]; exact decide_eq_true (by omega))]
          refine awp_seq (awp_region ?_)
          refine al_pure rfl rfl rfl (pure_move rfl gU) ?_
          refine al_pure rfl rfl rfl (pure_sliceS (h' := 1) rfl gU Tryd.underlying9 (fun _ => rfl) (fun _ => ⟨_, _, _, rfl, gU, by first | omega | (simp at hh ⊢; omega)⟩) (fun hh => by first | omega | (simp at hh ⊢; omega)) (fun hh => by first | omega | (simp at hh ⊢; omega))) ?_
          refine al_pure rfl rfl rfl (pure_build rfl Tryd.underlying37 rfl gU) ?_
          refine al_do rfl (does_store rfl rfl rfl rfl rfl rfl rfl) ?_
          refine al_pure rfl rfl rfl (pure_assign rfl gU) ?_
          refine al_pure rfl rfl rfl (pure_assign rfl gU) ?_
          refine al_nil ?_
          refine awp_ret ?_
          repeat (first | refine tR ?_ | refine bR ?_)
          refine ret_ok rfl ?_ trivial
          rfl
        · try simp only [nn] at hc4
          rw [if_neg (by rw [← hs4, decide_eq_false (by omega)]; exact Bool.false_ne_true)]
          refine awp_skip ?_
          refine awp_seq (awp_region ?_)
          refine al_pure rfl rfl rfl (pure_build rfl Tryd.underlying37 rfl gU) ?_
          refine al_do rfl (does_store rfl rfl rfl rfl rfl rfl rfl) ?_
          refine al_pure rfl rfl rfl (pure_assign rfl gU) ?_
          refine al_pure rfl rfl rfl (pure_assign rfl gU) ?_
          refine al_nil ?_
          refine awp_ret ?_
          repeat (first | refine tR ?_ | refine bR ?_)
          refine ret_ok rfl ?_ trivial
          rfl
end Go.Proofs.YtiiboiomiacibaaDoor
/- Contracts: the tokens of a text, as the lexer reads them. -/
set_option linter.unusedVariables false
set_option linter.unusedSimpArgs false
namespace Go.Proofs.YtiiboiomiacibaaDoor
open Go Go.Abs
theorem lineP_len : ∀ (n : Nat) (l : List UInt8) (k : Int) (out : List Tk), (lineP n l k out).1.length ≤ out.length + l.length
  | 0, l, k, out => by simp [lineP]
  | n + 1, l, k, out => by
    have h1 := trimE_len l
    unfold lineP
    split
    · simp
    · rename_i hq
      have hne : 0 < (trimE l).length := by
        apply List.length_pos_iff.2
        intro h; exact hq (.inl h)
      split
      · simp
      · rename_i he
        have h2 := nextE_le hne
        have h3 := h2.2 (Decidable.not_not.1 he)
        have ih := lineP_len n ((trimE l).drop (nextE (trimE l)).2.1) k (out ++ [(nextE (trimE l)).1.onl k])
        simp only [List.length_drop, List.length_append, List.length_singleton] at ih
        omega
theorem lineP_step {n : Nat} {l : List UInt8} {k : Int} {out : List Tk} (h : ¬(trimE l = [] ∨ [35, 35].isPrefixOf (trimE l) = true)) (he : (nextE (trimE l)).2.2 = 0) :
    lineP (n + 1) l k out = lineP n ((trimE l).drop (nextE (trimE l)).2.1) k (out ++ [(nextE (trimE l)).1.onl k]) := by
  rw [lineP, if_neg h, if_neg (by rw [he]; exact fun q => q rfl)]
theorem tokens_spec (s : List UInt8) (hs : s.length ≤ 1000000) : Ctr sys 12 [xs s] [] (xtoks (tokP s)) none [] := by
  have hsl := spl_len s
  refine spec_intro Tryd.func12 rfl rfl rfl rfl rfl rfl ?_
  refine awp_seq (awp_region ?_)
  refine al_do rfl (does_nil (.inr rfl) rfl rfl) ?_
  refine al_pure rfl rfl rfl (pure_assign rfl gU) ?_
  refine al_pure rfl rfl rfl (pure_assign rfl gU) ?_
  refine al_nil ?_
  refine awp_seq ?_
  refine awp_seq (awp_region ?_)
  refine al_pure rfl rfl rfl (pure_move rfl gU) ?_
  refine al_lenS rfl rfl rfl rfl rfl gU (Tryd.underlying9) ?_ (fun hh => by simp at hh); intro hlen
  refine al_pure rfl rfl rfl (pure_cmp rfl rfl gU gU rfl) ?_
  refine al_nil ?_
  refine awp_sub (s := { t := [(0, _, _), (13, _, _)], bx := [], ow := [] }) (sub_mk (⟨sx rfl, ⟨sx rfl, trivial⟩⟩) trivial trivial) ?_
  refine awp_cond rfl (fun hc => ?_) (fun hc => ?_)
  · try simp only [nn, strR_len, Tk.rows_len] at hc
    refine awp_seq (awp_region ?_)
    refine al_do rfl (does_nil (.inr rfl) rfl rfl) ?_
    refine al_pure rfl rfl rfl (pure_assign rfl gU) ?_
    refine al_pure rfl rfl rfl (pure_assign rfl gU) ?_
    refine al_nil ?_
    refine awp_ret ?_
    repeat (first | refine tR ?_ | refine bR ?_)
    refine ret_ok rfl ?_ trivial
    (rw [tokP, if_pos (by omega)]; rfl)
  · try simp only [nn, strR_len, Tk.rows_len] at hc
    rw [tokP, if_neg (by omega)]
    refine awp_skip ?_
    refine awp_seq (awp_region ?_)
    refine al_do rfl (does_nil (.inr rfl) rfl rfl) ?_
    refine al_nil ?_
    refine awp_seq ?_
    refine awp_seq (awp_region ?_)
    refine al_pure rfl rfl rfl (pure_move rfl gU) ?_
    refine al_call rfl rfl rfl rfl rfl rfl gU gU (split_spec _ (by omega)) rfl ?_
    refine al_lenSl rfl rfl rfl rfl rfl gU rfl rfl ?_ (fun hh => by simp at hh); intro hlen
    refine al_pure rfl rfl rfl (pure_move rfl gU) ?_
    refine al_nil ?_
    refine awp_sub (s := { t := [(5, _, _), (15, _, _), (16, _, _), (17, _, _)], bx := [], ow := [((.t 5), _)] }) (sub_mk (⟨sx rfl, ⟨sx rfl, ⟨sx rfl, ⟨sx rfl, trivial⟩⟩⟩⟩) trivial (⟨rfl, trivial⟩)) ?_
    refine awp_block ?_
    refine awp_for (ι := Nat × List Tk) { t := [(15, _, _), (16, _, _)], bx := [], ow := [((.t 5), _)] } (fun p => [(17, true, xi (p.1 : Int)), (5, true, xts p.2)]) (fun p => []) (fun p => p.1 ≤ (spl s).length ∧ p.2.length ≤ 70000 * p.1 ∧ toksP ((spl s).drop p.1) (p.1 + 1) p.2 = toksP (spl s) 1 []) (fun p => (spl s).length - p.1) ((0, [])) (⟨by simp, by simp, rfl⟩) (sub_mk (⟨sx rfl, ⟨sx rfl, ⟨sx rfl, ⟨sx rfl, trivial⟩⟩⟩⟩) trivial (⟨rfl, trivial⟩)) ?_
    intro p hok
    dsimp only [List.cons_append, List.nil_append] at *
    obtain ⟨k, out⟩ := p
    dsimp only at hok ⊢
    obtain ⟨hk, ho, hi⟩ := hok
    refine awp_seq (awp_region ?_)
    refine al_pure rfl rfl rfl (pure_cmp rfl rfl gU gU rfl) ?_
    refine al_nil ?_
    refine awp_seq ?_
    refine awp_cond rfl (fun hc2 => ?_) (fun hc2 => ?_)
    · try simp only [nn, strR_len, Tk.rows_len] at hc2
      rw [dropD (d := []) (by omega), toksP] at hi
      have hL := spl_get s k
      refine awp_skip ?_
      refine awp_seq ?_
      refine awp_block ?_
      refine awp_seq (awp_region ?_)
      refine al_pure rfl rfl rfl (pure_move rfl gU) ?_
      refine al_pure rfl rfl rfl (pure_indexAddr rfl rfl gU gU rfl rfl rfl (fun hh => strR_at (by first | omega | (simp at hh ⊢; omega)))) ?_
      refine al_pure rfl rfl rfl (pure_loadRo rfl gU rfl rfl rfl) ?_
      refine al_pure rfl rfl rfl (pure_assign rfl gU) ?_
      refine al_pure rfl rfl rfl (pure_assign rfl gU) ?_
      refine al_nil ?_
      refine awp_sub (s := { t := [(5, _, _), (6, _, _), (7, _, _), (15, _, _), (16, _, _), (17, _, _)], bx := [], ow := [((.t 5), _)] }) (sub_mk (⟨sx rfl, ⟨sx rfl, ⟨sx rfl, ⟨sx rfl, ⟨sx rfl, ⟨sx rfl, trivial⟩⟩⟩⟩⟩⟩) trivial (⟨rfl, trivial⟩)) ?_
      refine awp_block ?_
      refine awp_for (ι := List UInt8 × List Tk) { t := [(6, _, _), (15, _, _), (16, _, _), (17, _, _)], bx := [], ow := [((.t 5), _)] } (fun q => [(7, true, xs q.1), (5, true, xts q.2)]) (fun q => []) (fun q => q.1.length ≤ ((spl s).getD k []).length ∧ q.2.length + q.1.length ≤ out.length + ((spl s).getD k []).length ∧ ∃ n, q.1.length < n ∧ lineP n q.1 ((k + 1 : Nat) : Int) q.2 = lineP (((spl s).getD k []).length + 1) ((spl s).getD k []) ((k + 1 : Nat) : Int) out) (fun q => q.1.length) (((spl s).getD k [], out)) (⟨by simp, by simp, _, by dsimp only; omega, rfl⟩) (sub_mk (⟨sx rfl, ⟨sx rfl, ⟨sx rfl, ⟨sx rfl, ⟨sx rfl, ⟨sx rfl, trivial⟩⟩⟩⟩⟩⟩) trivial (⟨rfl, trivial⟩)) ?_
      intro q hokq
      dsimp only [List.cons_append, List.nil_append] at *
      obtain ⟨l, o2⟩ := q
      dsimp only at hokq ⊢
      obtain ⟨hl, ho2, n, hn, hi2⟩ := hokq
      obtain ⟨n, rfl⟩ : ∃ m, n = m + 1 := ⟨n - 1, by omega⟩
      have htl := trimE_len l
      refine awp_block ?_
      refine awp_seq (awp_region ?_)
      refine al_pure rfl rfl rfl (pure_move rfl gU) ?_
      refine al_call rfl rfl rfl rfl rfl rfl gU gU (trimLeft_spec _ (by omega)) rfl ?_
      refine al_pure rfl rfl rfl (pure_assign rfl gU) ?_
      refine al_nil ?_
      refine awp_seq ?_
      refine awp_seq (awp_region ?_)
      refine al_pure rfl rfl rfl (pure_move rfl gU) ?_
      refine al_pure rfl rfl rfl (pure_cmpS rfl rfl gU gU rfl) ?_
      refine al_pure rfl rfl rfl (pure_move rfl gU) ?_
      refine al_pure rfl rfl rfl (pure_move rfl gU) ?_
      refine al_call rfl rfl rfl rfl rfl rfl gU (fun hh => gA ((fun hh => hh) hh) (gA rfl (rfl))) (hasPrefix_spec _ _) rfl ?_
      refine al_pure rfl rfl rfl (pure_or rfl rfl gU (fun _ hi => gP rfl hi)) ?_
      refine al_nil ?_
      refine awp_sub (s := { t := [(5, _, _), (6, _, _), (7, _, _), (15, _, _), (16, _, _), (17, _, _), (29, _, _)], bx := [], ow := [((.t 5), _)] }) (sub_mk (⟨sx rfl, ⟨sx rfl, ⟨sx rfl, ⟨sx rfl, ⟨sx rfl, ⟨sx rfl, ⟨sx rfl, trivial⟩⟩⟩⟩⟩⟩⟩) trivial (⟨rfl, trivial⟩)) ?_
      refine awp_cond rfl (fun hc3 => ?_) (fun hc3 => ?_)
      · try simp only [nn, strR_len, Tk.rows_len] at hc3
        rw [lineP, if_pos hc3] at hi2
        rw [← hi2] at hi
        refine awp_exit ?_
        repeat (first | refine thenS_exit ?_ | refine blockS_hit ?_ | refine blockS_miss rfl ?_)
        refine awp_region ?_
        refine al_pure rfl rfl rfl (pure_arith rfl rfl gU gU rfl (IntWalk.i64_in _ (by omega))) ?_
        refine al_pure rfl rfl rfl (pure_move rfl gU) ?_
        refine al_nil ?_
        refine ⟨(k + 1, o2), ?_, ?_, sub_mk (⟨⟨_, rfl, ?_⟩, ⟨⟨_, rfl, ?_⟩, ⟨sx rfl, ⟨sx rfl, trivial⟩⟩⟩⟩) trivial (⟨rfl, trivial⟩)⟩
        all_goals first | rfl | omega | (refine ⟨by dsimp only; omega, by dsimp only; omega, ?_⟩; exact hi)
      · try simp only [nn, strR_len, Tk.rows_len] at hc3
        have hne : 0 < (trimE l).length := List.length_pos_iff.2 fun q => hc3.1 q
        have hnx := nextE_le hne
        refine awp_skip ?_
        refine awp_seq (awp_region ?_)
        refine al_pure rfl rfl rfl (pure_move rfl gU) ?_
        refine al_call rfl rfl rfl rfl rfl rfl gU gU (next_spec _ hne (by omega)) rfl ?_
        refine al_pure rfl rfl rfl (pure_move rfl gU) ?_
        refine al_pure rfl rfl rfl (pure_extract rfl gU rfl) ?_
        refine al_pure rfl rfl rfl (pure_extract rfl gU rfl) ?_
        refine al_pure rfl rfl rfl (pure_extract rfl gU rfl) ?_
        refine al_do rfl (does_alloc rfl rfl rfl) ?_
        refine al_do rfl (does_store rfl rfl rfl rfl rfl rfl rfl) ?_
        refine al_pure rfl rfl rfl (pure_assign rfl gU) ?_
        refine al_pure rfl rfl rfl (pure_assign rfl gU) ?_
        refine al_nil ?_
        refine awp_sub (s := { t := [(5, _, _), (6, _, _), (7, _, _), (8, _, _), (9, _, _), (10, _, _), (15, _, _), (16, _, _), (17, _, _)], bx := [((.l 8), _)], ow := [((.t 5), _)] }) (sub_mk (⟨sx rfl, ⟨sx rfl, ⟨sx rfl, ⟨sx rfl, ⟨sx rfl, ⟨sx rfl, ⟨sx rfl, ⟨sx rfl, ⟨sx rfl, trivial⟩⟩⟩⟩⟩⟩⟩⟩⟩) (⟨sx rfl, trivial⟩) (⟨rfl, trivial⟩)) ?_
        refine awp_seq ?_
        refine awp_seq (awp_region ?_)
        refine al_pure rfl rfl rfl (pure_move rfl gU) ?_
        refine al_pure rfl rfl rfl (pure_cmp rfl rfl gU gU rfl) ?_
        refine al_nil ?_
        refine awp_cond rfl (fun hc4 => ?_) (fun hc4 => ?_)
        · try simp only [nn, strR_len, Tk.rows_len] at hc4
          rw [lineP, if_neg (by intro q; rcases q with q | q; exact hc3.1 q; rw [q] at hc3; simp at hc3), if_pos hc4] at hi2
          rw [← hi2, if_pos hc4] at hi
          refine awp_seq (awp_region ?_)
          refine al_pure rfl rfl rfl (pure_move rfl gU) ?_
          refine al_pure rfl rfl rfl (pure_arith rfl rfl gU gU rfl (IntWalk.i64_in _ (by omega))) ?_
          refine al_pure rfl rfl rfl (pure_move rfl gU) ?_
          refine al_do rfl (does_nil (.inr rfl) rfl rfl) ?_
          refine al_pure rfl rfl rfl (pure_assign rfl gU) ?_
          refine al_pure rfl rfl rfl (pure_assign rfl gU) ?_
          refine al_nil ?_
          refine awp_ret ?_
          repeat (first | refine tR ?_ | refine bR ?_)
          refine ret_ok rfl ?_ trivial
          (rw [← hi]; rfl)
        · try simp only [nn, strR_len, Tk.rows_len] at hc4
          have h4 := hnx.2 hc4
          rw [lineP_step (by intro q; rcases q with q | q; exact hc3.1 q; rw [q] at hc3; simp at hc3) hc4] at hi2
          refine awp_skip ?_
          refine awp_seq (awp_region ?_)
          refine al_pure rfl rfl rfl (pure_move rfl gU) ?_
          refine al_pure rfl rfl rfl (pure_arith rfl rfl gU gU rfl (IntWalk.i64_in _ (by omega))) ?_
          refine al_pure rfl rfl rfl (pure_fieldPtr rfl gU rfl rfl) ?_
          refine al_do rfl (does_store rfl rfl rfl rfl rfl rfl rfl) ?_
          refine al_nil ?_
          refine awp_sub (s := { t := [(5, _, _), (6, _, _), (7, _, _), (8, _, _), (9, _, _), (15, _, _), (16, _, _), (17, _, _)], bx := [((.l 8), _)], ow := [((.t 5), _)] }) (sub_mk (⟨sx rfl, ⟨sx rfl, ⟨sx rfl, ⟨sx rfl, ⟨sx rfl, ⟨sx rfl, ⟨sx rfl, ⟨sx rfl, trivial⟩⟩⟩⟩⟩⟩⟩⟩) (⟨sx rfl, trivial⟩) (⟨rfl, trivial⟩)) ?_
          refine awp_seq (awp_region ?_)
          refine al_do rfl (does_take (.inl rfl) rfl rfl rfl) ?_
          refine al_pure rfl rfl rfl (pure_loadBoxRow rfl gU rfl rfl rfl rfl rfl) ?_
          refine al_buildSlice (xs := [_]) rfl rfl rfl rfl rfl rfl rfl rfl rfl gU rfl ?_
          refine al_do rfl (does_append rfl rfl rfl rfl rfl rfl rfl (by first | omega | (simp only [List.length_append, List.length_singleton, Tk.rows_len, strR_len]; omega)) (by first | omega | (simp only [List.length_append, List.length_singleton, Tk.rows_len, strR_len]; omega))) ?_
          refine al_do rfl (does_take (.inr rfl) rfl rfl rfl) ?_
          refine al_nil ?_
          refine awp_sub (s := { t := [(5, _, _), (6, _, _), (7, _, _), (9, _, _), (15, _, _), (16, _, _), (17, _, _)], bx := [], ow := [((.t 5), _)] }) (sub_mk (⟨sx rfl, ⟨sx rfl, ⟨sx rfl, ⟨sx rfl, ⟨sx rfl, ⟨sx rfl, ⟨sx rfl, trivial⟩⟩⟩⟩⟩⟩⟩) trivial (⟨rfl, trivial⟩)) ?_
          refine awp_region ?_
          refine al_pure rfl rfl rfl (pure_move rfl gU) ?_
          refine al_pure rfl rfl rfl (pure_move rfl gU) ?_
          refine al_pure rfl rfl rfl (pure_sliceS (l := (nextE (trimE l)).2.1) rfl gU Tryd.underlying9 (fun _ => ⟨_, _, _, rfl, gU, by first | omega | (simp at hh ⊢; omega)⟩) (fun _ => rfl) (fun hh => by first | omega | (simp at hh ⊢; omega)) (fun hh => by first | omega | (simp at hh ⊢; omega))) ?_
          refine al_pure rfl rfl rfl (pure_assign rfl gU) ?_
          refine al_nil ?_
          refine ⟨((trimE l).drop (nextE (trimE l)).2.1, o2 ++ [(nextE (trimE l)).1.onl ((k + 1 : Nat) : Int)]), ?_, ?_, sub_mk (⟨⟨_, rfl, ?_⟩, ⟨⟨_, rfl, ?_⟩, ⟨sx rfl, ⟨sx rfl, ⟨sx rfl, ⟨sx rfl, trivial⟩⟩⟩⟩⟩⟩) trivial (⟨rfl, trivial⟩)⟩
          all_goals first | rfl | exact tx (xts_snoc o2 ((nextE (trimE l)).1.onl ((k + 1 : Nat) : Int))) | exact tx (congrArg xs (by rw [List.take_length])) | (simp only [List.take_length, List.length_drop, List.length_append, List.length_singleton]; omega) | (refine ⟨?_, ?_, n, ?_, hi2⟩ <;> (simp only [List.length_drop, List.length_append, List.length_singleton]; omega))
    · try simp only [nn, strR_len, Tk.rows_len] at hc2
      rw [List.drop_of_length_le (by omega), toksP] at hi
      refine awp_exit ?_
      repeat (first | refine thenS_exit ?_ | refine blockS_hit ?_ | refine blockS_miss rfl ?_)
      refine awp_seq (awp_region ?_)
      refine al_do rfl (does_take (.inl rfl) rfl rfl rfl) ?_
      refine al_do rfl (does_take (.inr rfl) rfl rfl rfl) ?_
      refine al_pure rfl rfl rfl (pure_assign rfl gU) ?_
      refine al_pure rfl rfl rfl (pure_assign rfl gU) ?_
      refine al_nil ?_
      refine awp_ret ?_
      repeat (first | refine tR ?_ | refine bR ?_)
      refine ret_ok rfl ?_ trivial
      (rw [← hi]; rfl)
end Go.Proofs.YtiiboiomiacibaaDoor
