/- Literal slices and structs, parts of slices and strings, components of tuples. -/
import Derived.Test.YtginljdgdllhfaaAbs9
set_option linter.unusedVariables false
set_option linter.unusedSimpArgs false
namespace Go.Abs
variable {Z : Pg}

theorem foldl_set (off : Nat) : ∀ (l : List Value) (s : Nat) (cells : Array Value), off + s + l.length ≤ cells.size →
    ((l.zipIdx s).foldl (fun cs (x : Value × Nat) => cs.setIfInBounds (off + x.2) x.1) cells).size = cells.size ∧
    ∀ m, ((l.zipIdx s).foldl (fun cs (x : Value × Nat) => cs.setIfInBounds (off + x.2) x.1) cells)[m]? = if off + s ≤ m ∧ m < off + s + l.length then l[m - (off + s)]? else cells[m]?
  | [], s, cells, _ => by
    refine ⟨rfl, fun m => ?_⟩
    rw [if_neg (by simp only [List.length_nil]; omega)]
    rfl
  | v :: l, s, cells, h => by
    simp only [List.zipIdx_cons, List.foldl_cons]
    simp only [List.length_cons] at h
    obtain ⟨h1, h2⟩ := foldl_set off l (s + 1) (cells.setIfInBounds (off + s) v) (by simp; omega)
    refine ⟨by rw [h1]; simp, fun m => ?_⟩
    rw [h2 m]
    by_cases hm : off + (s + 1) ≤ m ∧ m < off + (s + 1) + l.length
    · rw [if_pos hm, if_pos (by simp only [List.length_cons]; omega)]
      rw [show m - (off + s) = (m - (off + (s + 1))) + 1 by omega]
      simp
    · rw [if_neg hm]
      by_cases he : m = off + s
      · subst he
        rw [if_pos (by simp only [List.length_cons]; omega)]
        simp only [Array.getElem?_setIfInBounds_self_of_lt (show off + s < cells.size by omega), Nat.sub_self, List.getElem?_cons_zero]
      · rw [if_neg (by simp only [List.length_cons]; omega), Array.getElem?_setIfInBounds_ne (fun e => he e.symm)]

theorem foldl_cells (off : Nat) (v : Value) (cells : Array Value) (h : off + v.cells.size ≤ cells.size) :
    (v.cells.zipIdx.foldl (fun cs (c, j) => cs.setIfInBounds (off + j) c) cells).size = cells.size ∧
    ∀ m, (v.cells.zipIdx.foldl (fun cs (c, j) => cs.setIfInBounds (off + j) c) cells)[m]? = if off ≤ m ∧ m < off + v.cells.size then v.cells[m - off]? else cells[m]? := by
  have := foldl_set off v.cells.toList 0 cells (by simpa using h)
  rw [← Array.foldl_toList, Array.toList_zipIdx]
  simpa using this

def enumO : Nat → List Operand → List (Nat × Operand)
  | _, [] => []
  | k, x :: r => (k, x) :: enumO (k + 1) r

theorem fill_seq (size : Nat) (ρ : Operand → Value) : ∀ (xs : List Operand) (k : Nat) (cells : Array Value), (∀ x ∈ xs, (ρ x).cells.size = size) → (k + xs.length) * size ≤ cells.size →
    ∃ cells', Instr.fill (fun i => some (i * size, size)) cells ((enumO k xs).map fun (i, x) => (i, ρ x)) = some cells' ∧ cells'.size = cells.size ∧
      (∀ m, m < k * size → cells'[m]? = cells[m]?) ∧ ∀ (i : Nat) (x : Operand) (j : Nat), xs[i]? = some x → j < size → cells'[(k + i) * size + j]? = (ρ x).cells[j]?
  | [], k, cells, _, _ => ⟨cells, rfl, rfl, fun _ _ => rfl, fun i x j h => by simp at h⟩
  | x :: xs, k, cells, hs, hl => by
    have hsz : (ρ x).cells.size = size := hs x (by simp)
    simp only [List.length_cons] at hl
    have hfit : k * size + (ρ x).cells.size ≤ cells.size := by
      have : (k + (xs.length + 1)) * size = k * size + size + xs.length * size := by simp only [Nat.add_mul, Nat.one_mul]; omega
      omega
    obtain ⟨f1, f2⟩ := foldl_cells (k * size) (ρ x) cells hfit
    obtain ⟨cells', h1, h2, h3, h4⟩ := fill_seq size ρ xs (k + 1) ((ρ x).cells.zipIdx.foldl (fun cs (c, j) => cs.setIfInBounds (k * size + j) c) cells) (fun y hy => hs y (List.mem_cons_of_mem _ hy)) (by
      rw [f1]; rw [show k + 1 + xs.length = k + (xs.length + 1) by omega]; exact hl)
    refine ⟨cells', ?_, by rw [h2, f1], ?_, ?_⟩
    · simp only [enumO, List.map_cons, Instr.fill]
      rw [if_neg (by simp [hsz]; omega)]
      exact h1
    · intro m hm
      rw [h3 m (by rw [Nat.add_mul]; omega), f2 m, if_neg (by omega)]
    · intro i y j hi hj
      cases i with
      | zero =>
        simp only [List.getElem?_cons_zero, Option.some.injEq] at hi
        subst hi
        rw [Nat.add_zero, h3 _ (by rw [Nat.add_mul]; omega), f2, if_pos (by omega)]
        congr 1; omega
      | succ i =>
        have := h4 i y j (by simpa using hi) hj
        rw [show k + (i + 1) = k + 1 + i by omega]
        exact this

section
variable {N : Nat} {st : St} {ty : TypeId} {gate : Bool}

def rowsOf (T : List (Option TyI)) (st : St) (ty : TypeId) (sz : Nat) : List Operand → Option (Bool × List (List C))
  | [] => some (true, [])
  | o :: os => match lk T st ty o with
    | some (g, .v y) => (match y.cells, rowsOf T st ty sz os with
      | some cs, some (g', rs) => cond (Nat.beq cs.length sz) (some (g && g', cs :: rs)) none
      | _, _ => none)
    | _ => none
theorem rowsOf_rep {E : Env} {G : Gh} {a : Act} {w : World} (hr : Rel E G st a w) {T : List (Option TyI)} {sz : Nat} : ∀ {os : List Operand} {g : Bool} {rs : List (List C)}, rowsOf T st ty sz os = some (g, rs) → g = true →
    All2 (fun row o => row.length = sz ∧ All2 (CRep w G.S) row (a.eval o).cells.toList) rs os
  | [], g, rs, h, _ => by simp [rowsOf] at h; obtain ⟨_, rfl⟩ := h; trivial
  | o :: os, g, rs, h, hg => by
    simp only [rowsOf] at h
    split at h
    · rename_i g1 y h1
      split at h
      · rename_i cs g2 rs' h2 h3
        cases hb : Nat.beq cs.length sz with
        | false => rw [hb] at h; simp at h
        | true =>
          rw [hb, cond_true] at h
          simp only [Option.some.injEq, Prod.mk.injEq] at h
          obtain ⟨rfl, rfl⟩ := h
          rw [Bool.and_eq_true] at hg
          exact ⟨⟨Nat.eq_of_beq_eq_true hb, (lk_rep hr h1 hg.1).cells h2⟩, rowsOf_rep hr h3 hg.2⟩
      · simp at h
    · simp at h

theorem op1_buildSlice {ops : Array Oper} {o : Oper} {g : Bool} {d : Nat} {t : TypeId} {len : Nat} {parts : Array (Nat × Operand)} {xs : List Operand} {ti : TyI} {e sz by' : Nat} {rs : List (List C)}
    (ho : o.op = .buildSlice t len parts) (hg : gateOf ops st o = some gate) (hd : o.dst = some d) (hN : Nat.ble (d + 1) N = true) (ht : tyAt Z.T t = some ti) (hel : ti.el = some (e, sz, by')) (hp : parts.toList = enumO 0 xs) (hx : Nat.beq xs.length len = true)
    (hrs : rowsOf Z.T st e sz xs = some (g, rs)) (hga : gate = true → g = true) (hbig : Nat.ble (len * sz) 10000 = true) : Op1 Z N ops o st (st.ret d gate (.v (.c (.sl sz rs))) (some sz)) := by
  intro E G a w hr hE K' Q' hK
  have hdN : d < E.nt := by rw [hE]; exact Nat.le_of_ble_eq_true hN
  rw [wanted_gate hr hg, hd]
  rw [hd] at hK
  cases gate with
  | false =>
    simp only [Bool.false_eq_true, if_false]
    exact hK G undef w (hr.put hdN (fun hf => by simp at hf) (fun _ => rfl))
  | true =>
    simp only [if_true]
    have hxl : xs.length = len := Nat.eq_of_beq_eq_true hx
    have hbig' : len * sz ≤ 10000 := Nat.le_of_ble_eq_true hbig
    have hrep := rowsOf_rep hr hrs (hga rfl)
    have hrl : rs.length = xs.length := hrep.len
    obtain ⟨hu, jf, ze, hinfo, hsz, _, hsz0, hze, hzec⟩ := (Z.tyOk ht).sl e sz by' hel
    have hsz' : ∀ x ∈ xs, (a.eval x).cells.size = sz := by
      intro x hx
      obtain ⟨j, hj⟩ := List.getElem?_of_mem hx
      have hjl : j < rs.length := by rw [hrl]; exact (List.getElem?_eq_some_iff.1 hj).1
      obtain ⟨x', hx', h1, h2⟩ := hrep.get j _ (List.getElem?_eq_getElem hjl)
      rw [hj] at hx'; simp at hx'; subst hx'
      rw [← Array.length_toList, ← h2.len, h1]
    let zc : Array Value := if len * sz = 0 then #[] else ze.cells
    let cells0 : Array Value := (Array.range (len * sz)).map (zc[· % zc.size]!)
    obtain ⟨cells, hf1, hf2, _, hf4⟩ := fill_seq sz a.eval xs 0 cells0 hsz' (by simp [cells0, hxl])
    have hfsz : cells.size = len * sz := by rw [hf2]; simp [cells0]
    have hrun : (execOp a.eval o).run Z.P w = .ok (.value (.slice (some ⟨w.heap.size, 0, none⟩) len len)) (w.alloc (.cells cells e)) := by
      have hmap : (parts.map fun (i, x) => (i, a.eval x)).toList = (enumO 0 xs).map fun (i, x) => (i, a.eval x) := by
        rw [Array.toList_map, hp]
      have hnb : ¬ (len * sz > 2 ^ 24) := by omega
      simp only [execOp, ho, Instr.buildSlice, underlying, Sem.run_bind, run_program, Result.andThen_ok, hu, Sem.run_pure, sizeOf, typeInfo, hinfo, hsz, Sem.run_ite, if_neg hnb]
      by_cases hz : len * sz = 0
      · simp only [hz, if_true]
        have hc0 : (Array.range 0).map ((#[] : Array Value)[· % (#[] : Array Value).size]!) = cells0 := by simp [cells0, hz]
        rw [hmap, hc0, hf1]
        simp [newRow]
      · simp only [if_neg hz, zeroValue, typeInfo, Sem.run_bind, run_program, Result.andThen_ok, hinfo, Sem.run_pure, hze]
        have hc0 : (Array.range (len * sz)).map (ze.cells[· % ze.cells.size]!) = cells0 := by simp only [cells0, zc, if_neg hz]
        rw [hmap, hc0, hf1]
        simp [newRow]
    unfold Oper.wp
    rw [hrun, Oper.upon_value, hd]
    let f : Nat → Who := fun o' => if o' < len * sz then .imm else .none
    let G1 := G.push w.heap.size f
    have hG : Rel E G1 st a (w.alloc (.cells cells e)) := by
      refine hr.grow (fr_alloc w _) ?_ (SameA.refl _ _) ?_
      · intro b o' hb
        have : ¬ b = w.heap.size := by omega
        simp [G1, Gh.push, this]
      · intro b o' hne
        simp only [G1, Gh.push] at hne
        split at hne
        · rename_i hb; subst hb; simp
        · have := hr.wf b o' hne; simp; omega
    have hS : ∀ b o', G.S b o' → G1.S b o' := fun b o' hs => by
      have hb := hr.wf b o' (by unfold Gh.S at hs; rw [hs]; simp)
      have : ¬ b = w.heap.size := by omega
      unfold Gh.S at *
      simp [G1, Gh.push, this, hs]
    have hc : ∀ b o', G.S b o' → (w.alloc (.cells cells e)).cell? ⟨b, o', none⟩ = w.cell? ⟨b, o', none⟩ := fun b o' hs =>
      World.cell?_alloc_lt w _ _ (hr.wf b o' (by unfold Gh.S at hs; rw [hs]; simp))
    have hX : XRep (w.alloc (.cells cells e)) G1 (.v (.c (.sl sz rs))) (.slice (some ⟨w.heap.size, 0, none⟩) len len) := by
      refine CRep.mk_sl (by omega) (Nat.le_refl _) (by have := Nat.le_mul_of_pos_right len (show 0 < sz by omega); omega) fun i row hi => ?_
      obtain ⟨x, hx1, hx2, hx3⟩ := hrep.get i row hi
      refine ⟨hx2, fun j c hj => ?_⟩
      have hjl : j < sz := by rw [← hx2]; exact (List.getElem?_eq_some_iff.1 hj).1
      have hil : i < len := by rw [← hxl]; exact (List.getElem?_eq_some_iff.1 hx1).1
      obtain ⟨v, hv, hcr⟩ := hx3.get j c hj
      have hlt : i * sz + j < len * sz := by
        have : (i + 1) * sz ≤ len * sz := Nat.mul_le_mul_right sz hil
        rw [Nat.add_mul] at this; omega
      refine ⟨by simp [Gh.S, G1, Gh.push, f, hlt], v, ?_, hcr.mono hS hc⟩
      rw [Nat.zero_add, World.cell?_alloc_new]
      have := hf4 i x j hx1 hjl
      rw [Nat.zero_add] at this
      rw [this]
      simpa using hv
    have hput := hG.put hdN (g := true) (fun _ => hX) (fun hf => by simp at hf)
    refine hK G1 _ _ (hput.addOwn (v := .slice (some ⟨w.heap.size, 0, none⟩) len len) ?_ ?_)
    · show (a.put (some d) _).tmps[d]? = _
      rw [act_put_get (by rw [hr.nt]; exact hdN)]; simp
    · refine .inr ⟨w.heap.size, len, len, e, rfl, Nat.le_refl _, ?_, fun o' h1 h2 => by omega⟩
      unfold World.shape?
      rw [show (w.alloc (.cells cells e)).heap[w.heap.size]? = some (.cells cells e) from Array.getElem?_push_size]
      simp [hfsz]

theorem al_buildSlice {ops : Array Oper} {rest : List Oper} {K : St → Prop} {o : Oper} {g : Bool} {d : Nat} {t : TypeId} {len : Nat} {parts : Array (Nat × Operand)} {xs : List Operand} {ti : TyI} {e sz by' : Nat} {rs : List (List C)}
    (ho : o.op = .buildSlice t len parts) (hg : gateOf ops st o = some gate) (hd : o.dst = some d) (hN : Nat.ble (d + 1) N = true) (ht : tyAt Z.T t = some ti) (hel : ti.el = some (e, sz, by')) (hp : parts.toList = enumO 0 xs) (hx : Nat.beq xs.length len = true)
    (hrs : rowsOf Z.T st e sz xs = some (g, rs)) (hga : gate = true → g = true) (hbig : Nat.ble (len * sz) 10000 = true)
    (h : AL Z N ops rest K (st.ret d gate (.v (.c (.sl sz rs))) (some sz))) : AL Z N ops (o :: rest) K st := al_op1 (op1_buildSlice ho hg hd hN ht hel hp hx hrs hga hbig) h

/-! ### Parts of slices -/
/-- A bound of 'x[lo:hi]': given, or not. -/
def bnd (T : List (Option TyI)) (st : St) (ty : TypeId) (o : Option Operand) (dflt : Nat) (g0 : Bool) (n : Nat) : Prop :=
  match o with
  | none => n = dflt
  | some x => ∃ g k m, lk T st ty x = some (g, .v (.c (.i k m))) ∧ (g0 = true → g = true) ∧ m = (n : Int)

theorem run_bound {E : Env} {G : Gh} {a : Act} {w : World} (hr : Rel E G st a w) {x : Operand} {g : Bool} {k : IntKind} {m : Int} {n y : Nat} {code : BoundsCode} (h : lk Z.T st ty x = some (g, .v (.c (.i k m)))) (hg : g = true) (hm : m = (n : Int)) (hy : n ≤ y) :
    (Instr.sliceBound (a.eval x) y code).run Z.P w = .ok n w := by
  have h1 := XRep.int (lk_rep hr h hg)
  subst hm
  simp [Instr.sliceBound, h1, asIntOf, hy]

theorem run_bounds {E : Env} {G : Gh} {a : Act} {w : World} (hr : Rel E G st a w) (hgt : gate = true) {lo hi : Option Operand} {isSlice : Bool} {len cap l h' : Nat} (hlo : bnd Z.T st ty lo 0 gate l) (hhi : bnd Z.T st ty hi len gate h') (hlh : l ≤ h') (hle : h' ≤ len) (hc : len ≤ cap) :
    (Instr.sliceBounds isSlice len cap (lo.map a.eval) (hi.map a.eval) none).run Z.P w = .ok (l, h', cap) w := by
  cases lo with
  | none =>
    simp only [bnd] at hlo; subst hlo
    cases hi with
    | none => simp only [bnd] at hhi; subst hhi; simp [Instr.sliceBounds]
    | some y =>
      obtain ⟨g1, k1, m1, q1, q2, q3⟩ := hhi
      simp [Instr.sliceBounds, run_bound hr q1 (q2 hgt) q3 (show h' ≤ cap by omega)]
  | some z =>
    obtain ⟨g2, k2, m2, p1, p2, p3⟩ := hlo
    cases hi with
    | none => simp only [bnd] at hhi; subst hhi; simp [Instr.sliceBounds, run_bound hr p1 (p2 hgt) p3 hlh]
    | some y =>
      obtain ⟨g1, k1, m1, q1, q2, q3⟩ := hhi
      simp [Instr.sliceBounds, run_bound hr q1 (q2 hgt) q3 (show h' ≤ cap by omega), run_bound hr p1 (p2 hgt) p3 hlh]

/-- 'x[lo:hi]', a slice; 'hi' no greater than its length. -/
theorem pure_slice {x : Operand} {lo hi : Option Operand} {t : TypeId} {g : Bool} {sz : Nat} {es : List (List C)} {ti : TyI} {e by' l h' : Nat} (h : lk Z.T st ty x = some (g, .v (.c (.sl sz es)))) (hg : gate = true → g = true)
    (ht : tyAt Z.T t = some ti) (hel : ti.el = some (e, sz, by')) (hlo : gate = true → bnd Z.T st ty lo 0 gate l) (hhi : gate = true → bnd Z.T st ty hi es.length gate h') (hlh : gate = true → l ≤ h') (hle : gate = true → h' ≤ es.length) :
    PureOk Z st (.slice t x lo hi none) ty gate (.v (.c (.sl sz ((es.take h').drop l)))) := by
  intro o E G a w ho _ hr hgt
  have hlo := hlo hgt; have hhi := hhi hgt; have hlh := hlh hgt; have hle := hle hgt
  have h1 := lk_rep hr h (hg hgt)
  obtain ⟨hu, jf, ze, hinfo, hsz, _, hsz0, _, _⟩ := (Z.tyOk ht).sl e sz by' hel
  have key : ∀ (base : Option Addr) (len cap : Nat), a.eval x = .slice base len cap → len = es.length → len ≤ cap →
      (execOp a.eval o).run Z.P w = .ok (.value (.slice (if cap = l then base else base.map (·.add (l * sz))) (h' - l) (cap - l))) w := by
    intro base len cap hv hl hc
    have hb := run_bounds hr hgt (isSlice := true) (cap := cap) hlo hhi hlh hle (by omega)
    rw [← hl] at hb
    simp only [execOp, ho, hv, Instr.sliceAt, Option.map_none, underlying, Sem.run_bind, run_program, Result.andThen_ok, hu, Sem.run_pure, Instr.slice, hb, sizeOf, typeInfo, hinfo, hsz]
  rcases CRep.sl_cases h1 with ⟨a0, hv, rfl⟩ | ⟨blk, off, len, cap, hv, hl⟩
  · have : h' = 0 := by simpa using hle
    subst this
    have : l = 0 := by omega
    subst this
    exact ⟨_, (by simpa using (show XRep w G (.v (.c (.sl sz []))) (.slice a0 0 0) from CRep.emp sz a0)), by rw [key _ _ _ hv rfl (Nat.le_refl _)]; simp⟩
  · rw [hv] at h1
    obtain ⟨_, hcap, hmax, hel'⟩ := h1.elem
    refine ⟨_, ?_, key _ _ _ hv hl.symm hcap⟩
    by_cases hcl : cap = l
    · rw [if_pos hcl]
      refine CRep.mk_sl (by simp; omega) (by omega) (by omega) fun i row hi' => ?_
      have := (List.getElem?_eq_some_iff.1 hi').1
      simp at this; omega
    · rw [if_neg hcl]
      simp only [Option.map_some, addr_add]
      refine CRep.mk_sl (by simp; omega) (by omega) (by omega) fun i row hi' => ?_
      rw [List.getElem?_drop, List.getElem?_take] at hi'
      split at hi'
      · obtain ⟨q1, q2⟩ := hel' _ row hi'
        refine ⟨q1, ?_⟩
        rw [show off + l * sz + i * sz = off + (l + i) * sz by rw [Nat.add_mul]; omega]
        exact q2
      · simp at hi'

/-- 's[lo:hi]', a string. -/
theorem pure_sliceS {x : Operand} {lo hi : Option Operand} {t : TypeId} {g : Bool} {s : List UInt8} {l h' : Nat} (h : lk Z.T st ty x = some (g, .v (.c (.s s)))) (hg : gate = true → g = true)
    (hu : Z.P.underlying t = some .string) (hlo : gate = true → bnd Z.T st ty lo 0 gate l) (hhi : gate = true → bnd Z.T st ty hi s.length gate h') (hlh : gate = true → l ≤ h') (hle : gate = true → h' ≤ s.length) :
    PureOk Z st (.slice t x lo hi none) ty gate (.v (.c (.s ((s.take h').drop l)))) := by
  intro o E G a w ho _ hr hgt
  have hlo := hlo hgt; have hhi := hhi hgt; have hlh := hlh hgt; have hle := hle hgt
  have h0 := lk_rep hr h (hg hgt)
  have h1 := XRep.str h0
  have hb := run_bounds hr hgt (isSlice := false) (cap := s.length) hlo hhi hlh hle (Nat.le_refl _)
  refine ⟨.string ⟨((s.take h').drop l).toArray⟩, CRep.s _ (by have := CRep.strMax h0; simp; omega), ?_⟩
  have hex : (⟨s.toArray⟩ : ByteArray).extract l h' = ⟨((s.take h').drop l).toArray⟩ := by
    rw [Lib.extract_eq]
    simp [List.drop_take]
  simp [execOp, ho, h1, Instr.sliceAt, underlying, hu, Instr.slice, size_mk, hb, hex]

/-- A component of a tuple. -/
theorem pure_extract {x : Operand} {i : Nat} {g : Bool} {ys : List Y} {y : Y} (h : lk Z.T st ty x = some (g, .tup ys)) (hg : gate = true → g = true) (hi : ys[i]? = some y) : PureOk Z st (.extract x i) ty gate (.v y) := by
  intro o E G a w ho _ hr hgt
  obtain ⟨vs, hv, hall⟩ := lk_rep hr h (hg hgt)
  obtain ⟨v, hv', hy⟩ := hall.get i y hi
  exact ⟨v, hy, by simp [execOp, ho, hv, Instr.extract, hv']⟩

/-- A field of a struct's value. -/
theorem pure_field {x : Operand} {i : Nat} {t tf : TypeId} {g : Bool} {cs : List C} {c : C} {off : Nat} {tj : TyI} {fs : Array Field} {f : Field} (h : lk Z.T st ty x = some (g, .v (.agg cs))) (hg : gate = true → g = true)
    (hu : Z.P.underlying t = some (.struct fs)) (hf : fs[i]? = some f) (htf : f.type = tf) (hoff : f.offset = off) (htj : tyAt Z.T tf = some tj) (hagg : tj.agg = false) (hc : cs[off]? = some c) : PureOk Z st (.field t x i) ty gate (.v (.c c)) := by
  intro o E G a w ho _ hr hgt
  obtain ⟨vs, hv, hall⟩ := lk_rep hr h (hg hgt)
  obtain ⟨v, hv', hcr⟩ := hall.get off c hc
  obtain ⟨_, d, zv, _, hd, _, hrow, _⟩ := (Z.tyOk htj).info
  have hA : (isAgg f.type).run Z.P w = .ok false w := by
    unfold isAgg underlying
    rw [hagg] at hrow
    rw [htf]
    cases d <;> simp_all
  exact ⟨v, hcr, by simp [execOp, ho, hv, Instr.field, underlying, hu, hf, asAgg, part, hA, hoff, hv']⟩
end
end Go.Abs
