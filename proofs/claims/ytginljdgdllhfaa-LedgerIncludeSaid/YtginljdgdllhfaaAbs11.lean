/- append -/
import Derived.Test.YtginljdgdllhfaaAbs10
import Derived.Laws.AppendOwn
set_option linter.unusedVariables false
set_option linter.unusedSimpArgs false
namespace Go.Abs
variable {Z : Pg}

theorem setCells_facts (b : Nat) : ∀ (vs : List Value) (o : Nat) (w : World), (∀ j, j < vs.length → (w.cell? ⟨b, o + j, none⟩).isSome = true) →
    (w.setCells b o vs).os = w.os ∧ (w.setCells b o vs).tape = w.tape ∧ (w.setCells b o vs).output = w.output ∧ (w.setCells b o vs).heap.size = w.heap.size ∧
    (∀ k, k ≠ b → (w.setCells b o vs).heap[k]? = w.heap[k]?) ∧ (∀ c p, ¬ (c = b ∧ o ≤ p ∧ p < o + vs.length) → (w.setCells b o vs).cell? ⟨c, p, none⟩ = w.cell? ⟨c, p, none⟩) ∧
    (∀ (j : Nat) (v : Value), vs[j]? = some v → (w.setCells b o vs).cell? ⟨b, o + j, none⟩ = some v) ∧ (∀ a, (w.setCells b o vs).frozen? a = w.frozen? a) ∧ (∀ c, (w.setCells b o vs).shape? c = w.shape? c)
  | [], o, w, _ => ⟨rfl, rfl, rfl, rfl, fun _ _ => rfl, fun _ _ _ => rfl, fun j v h => by simp at h, fun _ => rfl, fun _ => rfl⟩
  | v :: r, o, w, h => by
    have h0 := h 0 (by simp)
    obtain ⟨u, hu⟩ := Option.isSome_iff_exists.1 h0
    obtain ⟨h1, h2, h3, h4, h5, h6, h7, h8, h9⟩ := setCells_facts b r (o + 1) (w.setCell ⟨b, o, none⟩ v) (fun j hj => by
      rw [World.cell?_setCell_other _ _ _ _ (by simp; omega)]
      have := h (j + 1) (by simp; omega)
      rwa [show o + (j + 1) = o + 1 + j by omega] at this)
    simp only [World.setCells]
    refine ⟨h1, h2, h3, by rw [h4]; simp, fun k hk => ?_, fun c p hcp => ?_, fun j x hj => ?_, fun a => by rw [h8]; exact World.frozen?_setCell _ _ _ _, fun c => by rw [h9, shape_setCell]⟩
    · rw [h5 k hk, RowKit.Below.heap_setCell _ _ _ _ (by simpa using hk)]
    · simp only [List.length_cons] at hcp
      rw [h6 c p (by omega), World.cell?_setCell_other]
      intro he; simp at he; omega
    · cases j with
      | zero =>
        simp at hj; subst hj
        show ((w.setCell { block := b, off := o } v).setCells b (o + 1) r).cell? ⟨b, o, none⟩ = some v
        rw [h6 b o (by omega)]
        exact World.cell?_setCell_same _ _ _ hu
      | succ j =>
        have := h7 j x (by simpa using hj)
        rwa [show o + 1 + j = o + (j + 1) by omega] at this

theorem St.unown_sub (st : St) (p : Pl) : Sub (st.unown p) st where
  t := fun _ _ q => q
  bx := fun _ _ q => q
  ow := fun q s hq => by
    rw [St.unown_own] at hq; split at hq
    · simp at hq
    · exact hq
/-- Cells that 'p' owned are written and never change again. -/
theorem Rel.write {E : Env} {G : Gh} {st : St} {a : Act} {w w1 : World} {p : Pl} {F : Nat → Nat → Prop} [∀ b o, Decidable (F b o)] (h : Rel E G st a w) (hF : ∀ b o, F b o → G.W b o = .own p)
    (h1 : w1.os = w.os) (h2 : w1.tape = w.tape) (h3 : w1.output = w.output) (h4 : w1.heap.size = w.heap.size) (h5 : ∀ b, (∀ o, ¬ F b o) → w1.heap[b]? = w.heap[b]?)
    (h6 : ∀ b o, ¬ F b o → w1.cell? ⟨b, o, none⟩ = w.cell? ⟨b, o, none⟩) (h8 : ∀ x, w1.frozen? x = w.frozen? x) (h9 : ∀ b, w1.shape? b = w.shape? b) :
    Rel E { G with W := fun b o => if F b o then .imm else G.W b o } (st.unown p) a w1 := by
  have hnF : ∀ b o, G.W b o ≠ .own p → ¬ F b o := fun b o hn hf => hn (hF b o hf)
  have hS : ∀ b o, G.S b o → Gh.S { G with W := fun b o => if F b o then .imm else G.W b o } b o := fun b o hs => by
    unfold Gh.S at *
    dsimp only
    split
    · rfl
    · exact hs
  have hc : ∀ b o, G.S b o → w1.cell? ⟨b, o, none⟩ = w.cell? ⟨b, o, none⟩ := fun b o hs => h6 b o (hnF b o (by unfold Gh.S at hs; rw [hs]; simp))
  constructor
  · exact h.df
  · intro k g x hk
    obtain ⟨u, hu, q1, q2⟩ := h.tm k g x hk
    exact ⟨u, hu, fun hg => (q1 hg).mono hS hc (fun _ _ => rfl), q2⟩
  · intro n cs hn j c hj
    obtain ⟨q1, q2, u, q3, q4⟩ := h.bx n cs hn j c hj
    have hnf := hnF _ _ (by rw [q1]; simp : G.W (G.A n).1 ((G.A n).2 + j) ≠ .own p)
    exact ⟨by dsimp only; rw [if_neg hnf]; exact q1, by rw [h8]; exact q2, u, by rw [h6 _ _ hnf]; exact q3, q4.mono hS hc⟩
  · intro r s hr
    rw [St.unown_own] at hr
    split at hr
    · simp at hr
    · rename_i hrp
      obtain ⟨u, hu, ho⟩ := h.ow r s hr
      refine ⟨u, ?_, ?_⟩
      · cases r with
        | t k => exact hu
        | b n off =>
          have hnf := hnF _ _ (by rw [hu.2]; simp : G.W (G.A n).1 ((G.A n).2 + off) ≠ .own p)
          exact ⟨by rw [h6 _ _ hnf]; exact hu.1, by dsimp only; rw [if_neg hnf]; exact hu.2⟩
      · rcases ho with ho | ⟨blk, len, cap, e, q1, q2, q3, q4⟩
        · exact .inl ho
        · refine .inr ⟨blk, len, cap, e, q1, q2, by rw [h9]; exact q3, fun o ho1 ho2 => ?_⟩
          obtain ⟨q5, q6⟩ := q4 o ho1 ho2
          have hnf := hnF blk o (by rw [q5]; intro e; injection e with e; exact hrp e)
          exact ⟨by dsimp only; rw [if_neg hnf]; exact q5, by rw [h8]; exact q6⟩
  · intro b o hb
    rw [h4]
    dsimp only at hb
    split at hb
    · rename_i hf; exact h.wf b o (by rw [hF b o hf]; simp)
    · exact h.wf b o hb
  · intro b o n hb hn
    dsimp only at hn
    split at hn
    · simp at hn
    · exact h.olB b o n hb hn
  · intro b o q hb hn
    dsimp only at hn
    split at hn
    · simp at hn
    · exact h.olO b o q hb hn
  · exact h.nt
  · exact h.oA
  · intro b o hi; exact hS b o (h.im b o hi)
  · intro b o hb hi
    dsimp only at hi
    split at hi
    · rename_i hf
      exact .inr (h.olO b o p hb (hF b o hf))
    · exact h.im' b o hb hi
  · refine h.fr.trans ⟨h1, h2, h3, by rw [h4]; exact Nat.le_refl _, ?_, ?_, fun b o _ => h8 _, fun b _ => h9 _⟩
    · intro b hb hM
      refine h5 b fun o hf => hM o (.inr ?_)
      exact h.olO b o p hb (hF b o hf)
    · intro b o hb hM
      refine h6 b o fun hf => hM (.inr ?_)
      exact h.olO b o p hb (hF b o hf)
  · exact h.hB
  · intro b o hb
    dsimp only
    split
    · exact ⟨fun k => by simp, fun q => by simp⟩
    · exact h.lo b o hb

/-- The cells of a slice in memory. -/
theorem slice_vals {w : World} {S : Nat → Nat → Prop} {sz : Nat} {es : List (List C)} {blk off len cap : Nat} (h : CRep w S (.sl sz es) (.slice (some ⟨blk, off, none⟩) len cap)) :
    ∃ vs : List Value, vs.length = len * sz ∧ (∀ (j : Nat) (v : Value), vs[j]? = some v → w.cell? ((⟨blk, off, none⟩ : Addr).add j) = some v) ∧ (∀ v ∈ vs, v.oneCell' = true) ∧
      ∀ (i j : Nat) (row : List C) (c : C), es[i]? = some row → row[j]? = some c → ∃ v, vs[i * sz + j]? = some v ∧ CRep w S c v := by
  obtain ⟨hl, _, _, hel⟩ := h.elem
  obtain ⟨vs, h1, h2⟩ := vals_of (R := fun k v => w.cell? ⟨blk, off + k, none⟩ = some v ∧ ∃ row c, es[k / sz]? = some row ∧ row[k % sz]? = some c ∧ CRep w S c v) (len * sz) fun k hk => by
    have hsz : 0 < sz := by
      rcases Nat.eq_zero_or_pos sz with h0 | h0
      · rw [h0, Nat.mul_zero] at hk; omega
      · exact h0
    have hi : k / sz < es.length := by rw [hl]; exact (Nat.div_lt_iff_lt_mul hsz).2 hk
    obtain ⟨q1, q2⟩ := hel (k / sz) _ (List.getElem?_eq_getElem hi)
    have hj : k % sz < (es[k / sz]).length := by rw [q1]; exact Nat.mod_lt _ hsz
    obtain ⟨_, v, q3, q4⟩ := q2 (k % sz) _ (List.getElem?_eq_getElem hj)
    refine ⟨v, ?_, _, _, List.getElem?_eq_getElem hi, List.getElem?_eq_getElem hj, q4⟩
    rw [show off + k / sz * sz + k % sz = off + k by rw [Nat.mul_comm, Nat.add_assoc, Nat.div_add_mod]] at q3
    exact q3
  refine ⟨vs, h1, fun j v hj => by rw [addr_add]; exact (h2 j v hj).1, fun v hv => ?_, fun i j row c hi hj => ?_⟩
  · obtain ⟨j, hj⟩ := List.getElem?_of_mem hv
    obtain ⟨_, row, c, _, _, hc⟩ := h2 j v hj
    exact hc.one
  · have hrow := (hel i row hi).1
    have hjl : j < sz := by rw [← hrow]; exact (List.getElem?_eq_some_iff.1 hj).1
    have hil : i < len := by rw [← hl]; exact (List.getElem?_eq_some_iff.1 hi).1
    have hlt : i * sz + j < vs.length := by
      rw [h1]
      have : (i + 1) * sz ≤ len * sz := Nat.mul_le_mul_right sz hil
      rw [Nat.add_mul] at this; omega
    refine ⟨_, List.getElem?_eq_getElem hlt, ?_⟩
    obtain ⟨_, row', c', q1, q2, q3⟩ := h2 _ _ (List.getElem?_eq_getElem hlt)
    have hd : (i * sz + j) / sz = i := by
      rw [Nat.mul_comm, Nat.mul_add_div (by omega), Nat.div_eq_of_lt hjl, Nat.add_zero]
    have hm : (i * sz + j) % sz = j := by rw [Nat.mul_comm, Nat.mul_add_mod, Nat.mod_eq_of_lt hjl]
    rw [hd, hi] at q1
    simp only [Option.some.injEq] at q1; subst q1
    rw [hm, hj] at q2
    simp only [Option.some.injEq] at q2; subst q2
    exact q3

/-- A new row whose first cells never change again; 'p' owns the rest. -/
theorem Rel.newRow {E : Env} {G : Gh} {st : St} {a : Act} {w : World} (h : Rel E G st a w) (p : Pl) {cells : Array Value} {e : TypeId} {sz len cap : Nat} {es : List (List C)} (hc : len ≤ cap) (hm : len ≤ 9223372036854775807) (hsz : cells.size = cap * sz) (hl : es.length = len)
    (hrow : ∀ (i : Nat) (row : List C), es[i]? = some row → row.length = sz)
    (hrep : ∀ (i j : Nat) (row : List C) (c : C), es[i]? = some row → row[j]? = some c → ∃ v, cells[i * sz + j]? = some v ∧ CRep w G.S c v) :
    ∃ G1, Rel E G1 (st.unown p) a (w.drew.alloc (.cells cells e)) ∧ CRep (w.drew.alloc (.cells cells e)) G1.S (.sl sz es) (.slice (some ⟨w.heap.size, 0, none⟩) len cap) ∧
      OwnAt (w.drew.alloc (.cells cells e)) G1 p sz (.slice (some ⟨w.heap.size, 0, none⟩) len cap) := by
  let f : Nat → Who := fun o => if o < len * sz then .imm else if o < cap * sz then .own p else .none
  let G1 := G.push w.heap.size f
  have hfr : Fr (fun _ _ => False) w.heap.size w (w.drew.alloc (.cells cells e)) := by
    have h1 := fr_alloc w.drew (.cells cells e)
    exact ⟨h1.os, h1.tape, h1.output, h1.size, h1.block, h1.cell, h1.frozen, h1.shape⟩
  have hS : ∀ b o', G.S b o' → G1.S b o' := fun b o' hs => by
    have hb := h.wf b o' (by unfold Gh.S at hs; rw [hs]; simp)
    have : ¬ b = w.heap.size := by omega
    unfold Gh.S at *
    simp [G1, Gh.push, this, hs]
  have hcell : ∀ b o', G.S b o' → (w.drew.alloc (.cells cells e)).cell? ⟨b, o', none⟩ = w.cell? ⟨b, o', none⟩ := fun b o' hs =>
    hfr.cell b o' (h.wf b o' (by unfold Gh.S at hs; rw [hs]; simp)) (fun x => x)
  have hnew : ∀ i, (w.drew.alloc (.cells cells e)).cell? ⟨w.heap.size, i, none⟩ = cells[i]? := fun i => World.cell?_alloc_new w.drew cells e i
  refine ⟨G1, ?_, ?_, ?_⟩
  · refine (h.sub (st.unown_sub p)).grow hfr ?_ (SameA.refl _ _) ?_
    · intro b o' hb
      have : ¬ b = w.heap.size := by omega
      simp [G1, Gh.push, this]
    · intro b o' hne
      simp only [G1, Gh.push] at hne
      split at hne
      · rename_i hb; subst hb; simp
      · have := h.wf b o' hne; simp; omega
  · refine CRep.mk_sl hl hc hm fun i row hi => ⟨hrow i row hi, fun j c hj => ?_⟩
    obtain ⟨v, hv, hcr⟩ := hrep i j row c hi hj
    have hjl : j < sz := by rw [← hrow i row hi]; exact (List.getElem?_eq_some_iff.1 hj).1
    have hil : i < len := by rw [← hl]; exact (List.getElem?_eq_some_iff.1 hi).1
    have hlt : i * sz + j < len * sz := by
      have : (i + 1) * sz ≤ len * sz := Nat.mul_le_mul_right sz hil
      rw [Nat.add_mul] at this; omega
    refine ⟨by simp [Gh.S, G1, Gh.push, f, hlt], v, ?_, hcr.mono hS hcell⟩
    rw [Nat.zero_add, hnew]
    exact hv
  · refine .inr ⟨w.heap.size, len, cap, e, rfl, hc, ?_, fun o' h1 h2 => ?_⟩
    · unfold World.shape?
      rw [show (w.drew.alloc (.cells cells e)).heap[w.heap.size]? = some (.cells cells e) from Array.getElem?_push_size]
      simp [hsz]
    · have hn : ¬ o' < len * sz := by omega
      exact ⟨by simp [G1, Gh.push, f, hn, h2], World.frozen?_alloc_new w.drew cells e o'⟩

theorem rows_append {es xs : List (List C)} {sz : Nat} {olds news : List Value} {R : C → Value → Prop} (ho : olds.length = es.length * sz)
    (h1 : ∀ (i j : Nat) (row : List C) (c : C), es[i]? = some row → row[j]? = some c → ∃ v, olds[i * sz + j]? = some v ∧ R c v)
    (h2 : ∀ (i j : Nat) (row : List C) (c : C), xs[i]? = some row → row[j]? = some c → ∃ v, news[i * sz + j]? = some v ∧ R c v) (rest : Array Value) :
    ∀ (i j : Nat) (row : List C) (c : C), (es ++ xs)[i]? = some row → row[j]? = some c → ∃ v, (olds.toArray ++ news.toArray ++ rest)[i * sz + j]? = some v ∧ R c v := by
  intro i j row c hi hj
  have key : ∀ (m : Nat) (v : Value), (olds ++ news)[m]? = some v → (olds.toArray ++ news.toArray ++ rest)[m]? = some v := by
    intro m v hm
    have hlt := (List.getElem?_eq_some_iff.1 hm).1
    rw [Array.getElem?_append_left (by simpa using hlt)]
    simpa using hm
  rw [List.getElem?_append] at hi
  split at hi
  · rename_i hlt
    obtain ⟨v, hv, hr⟩ := h1 i j row c hi hj
    refine ⟨v, key _ _ ?_, hr⟩
    rw [List.getElem?_append_left (List.getElem?_eq_some_iff.1 hv).1]
    exact hv
  · rename_i hge
    obtain ⟨v, hv, hr⟩ := h2 _ j row c hi hj
    refine ⟨v, key _ _ ?_, hr⟩
    have : i * sz + j = olds.length + ((i - es.length) * sz + j) := by
      rw [ho, Nat.sub_mul]
      have : es.length * sz ≤ i * sz := Nat.mul_le_mul_right sz (by omega)
      omega
    rw [this, List.getElem?_append_right (by omega), Nat.add_sub_cancel_left]
    exact hv

section
variable {N : Nat} {st : St} {ty : TypeId}

def St.app (st : St) (d k : Nat) (sz : Nat) (es : List (List C)) : St := ((st.put d (true, .v (.c (.sl sz es)))).unown (.t k)).addOwn (.t d) sz

theorem does_append {d k : Nat} {x : Operand} {t : TypeId} {sz e by' : Nat} {es xs : List (List C)} {ti : TyI} (hs : st.get k = some (true, .v (.c (.sl sz es)))) (hw : st.own (.t k) = some sz) (hx : lk Z.T st t x = some (true, .v (.c (.sl sz xs))))
    (ht : tyAt Z.T t = some ti) (hel : ti.el = some (e, sz, by')) (hN : Nat.ble (d + 1) N = true) (hkd : Nat.beq k d = false) (hbig : (es.length + xs.length) * by' ≤ 140737488355328) (hmax : es.length + xs.length ≤ 9223372036854775807) :
    Does Z N st (some d) (.call { callee := .builtin .append, args := #[.tmp k, x], argTypes := #[t, t] }) ty (st.app d k sz (es ++ xs)) := by
  intro o E G a w hd ho _ hr hE K Q hK
  have hdN : d < E.nt := by rw [hE]; exact Nat.le_of_ble_eq_true hN
  have hkd' : ¬ d = k := fun e => by subst e; simp at hkd
  obtain ⟨hu, jf, ze, hinfo, hsz, hby, hsz0, hze, hzec⟩ := (Z.tyOk ht).sl e sz by' hel
  have hpos : 0 < sz := by omega
  obtain ⟨v, hv, hv1, _⟩ := hr.tm k true _ hs
  have hcr : CRep w G.S (.sl sz es) v := hv1 rfl
  obtain ⟨v', hv', hown⟩ := hr.ow _ _ hw
  have : v' = v := by
    have hv2 : a.tmps[k]? = some v' := hv'
    rw [hv] at hv2; simpa using hv2.symm
  subst this
  have hxr : CRep w G.S (.sl sz xs) (a.eval x) := lk_rep hr hx rfl
  have hev : a.eval (.tmp k) = v' := by simp [Act.eval, Array.getD_eq_getD_getElem?, hv]
  have hexec : (execOp a.eval o).run Z.P w = ((Builtin.append_ #[t, t] o.type #[v', a.eval x]).run Z.P w).andThen fun u w' => .ok (.value u) w' := by
    simp [execOp, ho, Go.resolve, invoke, builtin, hev]
  -- the ways end alike: a new value in the slot, the owner renamed
  have done : ∀ (G1 : Gh) (w1 : World) (u : Value), (Builtin.append_ #[t, t] o.type #[v', a.eval x]).run Z.P w = .ok u w1 → Rel E G1 (st.unown (.t k)) a w1 → CRep w1 G1.S (.sl sz (es ++ xs)) u → OwnAt w1 G1 (.t k) sz u → o.wp Z.P a w K Q := by
    intro G1 w1 u hrun hrel hc ho'
    unfold Oper.wp
    rw [hexec, hrun]
    simp only [Result.andThen_ok]
    rw [Oper.upon_value, hd]
    have hput := hrel.put hdN (g := true) (x := .v (.c (.sl sz (es ++ xs)))) (v := u) (fun _ => hc) (fun hf => by simp at hf)
    have := hput.relabel (q := .t d) ho' (by rw [St.put_own, if_pos rfl]) (by
      show (a.put (some d) u).tmps[d]? = _
      rw [act_put_get (by rw [hr.nt]; exact hdN)]; simp)
    refine hK (G1.relabel (.t k) (.t d)) u w1 (Rel.sub (st := (((st.unown (.t k)).put d (true, .v (.c (.sl sz (es ++ xs))))).unown (.t k)).addOwn (.t d) sz) ⟨fun _ _ q => q, fun _ _ q => q, ?_⟩ this)
    intro r s hrs
    unfold St.app at hrs
    rw [St.addOwn_own] at hrs
    rw [St.addOwn_own]
    split at hrs
    · rename_i he; rw [if_pos he]; exact hrs
    · rename_i he
      rw [if_neg he]
      rw [St.unown_own, St.put_own] at hrs
      rw [St.unown_own, St.put_own, St.unown_own]
      split at hrs
      · simp at hrs
      · rename_i hk; rw [if_neg hk, if_neg hk]; exact hrs
  have hunown : Rel E G (st.unown (.t k)) a w := hr.sub (st.unown_sub _)
  rcases CRep.sl_cases hxr with ⟨xa, hxv, rfl⟩ | ⟨xb, xo, m, mc, hxv, hxl⟩
  · -- nothing is appended
    obtain ⟨base, len, cap, hveq, hlc⟩ : ∃ base len cap, v' = .slice base len cap ∧ len ≤ cap := by
      rcases CRep.sl_cases hcr with ⟨_, h1, _⟩ | ⟨b1, o1, l1, c1, h1, _⟩
      · exact ⟨_, _, _, h1, Nat.le_refl _⟩
      · rw [h1] at hcr; exact ⟨_, _, _, h1, hcr.elem.2.1⟩
    refine done G w v' ?_ hunown (by simpa using hcr) hown
    subst hveq
    cases base with
    | none => cases xa <;> simp [Builtin.append_, hxv, underlying, hu, sizeOf, typeInfo, hinfo, Builtin.lenOf, hlc, Builtin.firstCells, loadCells, loadCellsFrom]
    | some b => cases xa <;> simp [Builtin.append_, hxv, underlying, hu, sizeOf, typeInfo, hinfo, Builtin.lenOf, hlc, Builtin.firstCells, storeCells, loadCells, loadCellsFrom]
  · rw [hxv] at hxr hexec done
    obtain ⟨news, hnl, hncell, hnone, hnrep⟩ := slice_vals hxr
    subst hxl
    have hexl : (es ++ xs).length = es.length + xs.length := List.length_append
    have hcase : (v' = .slice none 0 0 ∧ es = []) ∨ ∃ blk off len cap, v' = .slice (some ⟨blk, off, none⟩) len cap ∧ es.length = len := by
      rcases CRep.sl_cases hcr with ⟨ca, hvn, hes⟩ | h
      · rcases hown with hn | ⟨blk2, len2, cap2, e2, hv2, _⟩
        · exact .inl ⟨hn, hes⟩
        · refine .inr ⟨blk2, 0, len2, cap2, hv2, ?_⟩
          rw [hvn] at hv2
          simp only [Value.slice.injEq] at hv2
          rw [hes, ← hv2.2.1]; rfl
      · exact .inr h
    rcases hcase with ⟨hvn, rfl⟩ | ⟨blk, off, len, cap, hvs, hlen⟩
    · subst hvn
      by_cases hm : xs.length = 0
      · have hx0 : xs = [] := List.eq_nil_of_length_eq_zero hm
        subst hx0
        refine done G w (.slice none 0 0) ?_ hunown (CRep.nil sz) (.inl rfl)
        simp [Builtin.append_, underlying, hu, sizeOf, typeInfo, hinfo, Builtin.lenOf, Builtin.firstCells, loadCells, loadCellsFrom]
      · have hrun := run_append_nil (P := Z.P) w t o.type e jf ze hu hinfo hze ⟨xb, xo, none⟩ xs.length mc news (by rw [hnl, hsz]) hncell (by omega) (by omega) (by rw [hby]; simp only [List.length_nil, Nat.zero_add] at hbig; omega)
        have hge := grownCap_ge w xs.length 0 e
        obtain ⟨G1, q1, q2, q3⟩ := hr.newRow (.t k) (e := e) (sz := sz) (len := xs.length) (cap := grownCap w xs.length 0 e) (es := xs) (cells := news.toArray ++ Builtin.zeroCells ze.cells (grownCap w xs.length 0 e - xs.length)) hge
          (by simpa using hmax) (by simp only [Array.size_append, List.size_toArray, size_zeroCells, hzec, hnl, ← Nat.add_mul]; congr 1; omega) rfl (fun i row hi => (hxr.elem.2.2.2 i row hi).1) (fun i j row c hi hj => by
            obtain ⟨v, hv, hrep⟩ := hnrep i j row c hi hj
            refine ⟨v, ?_, hrep⟩
            rw [Array.getElem?_append_left (by simpa using (List.getElem?_eq_some_iff.1 hv).1)]
            simpa using hv)
        exact done G1 _ _ hrun q1 (by simpa using q2) q3
    · subst hvs
      subst hlen
      obtain ⟨olds, hol, hocell, _, horep⟩ := slice_vals hcr
      by_cases hroom : es.length + xs.length ≤ cap
      · -- in place
        rcases hown with ha0 | ⟨blk2, len2, cap2, e2, hv2, hlc2, hshape, hspare⟩
        · simp at ha0
        · simp only [Value.slice.injEq, Option.some.injEq, Addr.mk.injEq] at hv2
          obtain ⟨⟨rfl, rfl, _⟩, rfl, rfl⟩ := hv2
          have hfit : (es.length + xs.length) * sz ≤ cap * sz := Nat.mul_le_mul_right _ hroom
          rw [Nat.add_mul] at hfit
          have hsome : ∀ j, j < news.length → (w.cell? ⟨blk, es.length * sz + j, none⟩).isSome = true := by
            intro j hj
            unfold World.shape? at hshape
            unfold World.cell?
            split at hshape
            · rename_i c e3 fz hheap
              simp only [Option.some.injEq, Prod.mk.injEq] at hshape
              obtain ⟨_, hcs⟩ := hshape
              simp only [hheap]
              simp
              omega
            · simp at hshape
          have hst := run_storeCells_cells (P := Z.P) blk (es.length * sz) news 0 w (by simpa using hsome) (fun j hj => by
            simpa using (hspare (es.length * sz + j) (by omega) (by omega)).2) hnone
          rw [Nat.add_zero] at hst
          obtain ⟨f1, f2, f3, f4, f5, f6, f7, f8, f9⟩ := setCells_facts blk news (es.length * sz) w hsome
          have hrun : (Builtin.append_ #[t, t] o.type #[.slice (some ⟨blk, 0, none⟩) es.length cap, .slice (some ⟨xb, xo, none⟩) xs.length mc]).run Z.P w = .ok (.slice (some ⟨blk, 0, none⟩) (es.length + xs.length) cap) (w.setCells blk (es.length * sz) news) := by
            have hf := run_firstCells_some (P := Z.P) w sz xs.length ⟨xb, xo, none⟩ xs.length mc news hnl hncell
            simp [Builtin.append_, run_underlying hu, sizeOf, typeInfo, hinfo, hsz, Builtin.lenOf, hroom, hf, addr_add, hst]
          let F : Nat → Nat → Prop := fun b o => b = blk ∧ es.length * sz ≤ o ∧ o < es.length * sz + news.length
          have hF : ∀ b o, F b o → G.W b o = .own (.t k) := by
            rintro b o ⟨rfl, h1, h2⟩
            exact (hspare o h1 (by omega)).1
          have hrel := hr.write (F := F) (w1 := w.setCells blk (es.length * sz) news) hF f1 f2 f3 f4 (fun b hb => by
              by_cases hbb : b = blk
              · subst hbb
                by_cases hz : news.length = 0
                · have hn0 : news = [] := List.eq_nil_of_length_eq_zero hz
                  rw [hn0]; rfl
                · exact absurd ⟨rfl, Nat.le_refl _, by omega⟩ (hb (es.length * sz))
              · exact f5 b hbb) (fun b o hb => f6 b o hb) f8 f9
          have hnF : ∀ b o, G.S b o → ¬ F b o := fun b o hs hf => by
            unfold Gh.S at hs; rw [hF b o hf] at hs; simp at hs
          have hS : ∀ b o, G.S b o → Gh.S { G with W := fun b o => if F b o then .imm else G.W b o } b o := fun b o hs => by
            have := hnF b o hs
            unfold Gh.S at *
            dsimp only
            rw [if_neg this]; exact hs
          have hc : ∀ b o, G.S b o → (w.setCells blk (es.length * sz) news).cell? ⟨b, o, none⟩ = w.cell? ⟨b, o, none⟩ := fun b o hs => f6 b o (hnF b o hs)
          refine done _ _ _ hrun hrel (CRep.mk_sl hexl hroom hmax fun i row hi => ?_) (.inr ⟨blk, es.length + xs.length, cap, e2, rfl, hroom, by rw [f9]; exact hshape, fun o' h1 h2 => ?_⟩)
          · rw [List.getElem?_append] at hi
            split at hi
            · obtain ⟨q1, q2⟩ := hcr.elem.2.2.2 _ row hi
              exact ⟨q1, q2.mono hS hc⟩
            · rename_i hge
              obtain ⟨q1, _⟩ := hxr.elem.2.2.2 _ row hi
              refine ⟨q1, fun j c hj => ?_⟩
              obtain ⟨v, hv, hrep⟩ := hnrep _ j row c hi hj
              have hlt := (List.getElem?_eq_some_iff.1 hv).1
              have hidx : 0 + i * sz + j = es.length * sz + ((i - es.length) * sz + j) := by
                rw [Nat.sub_mul]
                have : es.length * sz ≤ i * sz := Nat.mul_le_mul_right sz (by omega)
                omega
              rw [hidx]
              refine ⟨?_, v, f7 _ v hv, hrep.mono hS hc⟩
              unfold Gh.S
              dsimp only
              rw [if_pos ⟨rfl, by omega, by omega⟩]
          · rw [Nat.add_mul] at h1
            obtain ⟨q5, q6⟩ := hspare o' (by omega) h2
            refine ⟨?_, by rw [f8]; exact q6⟩
            dsimp only
            rw [if_neg (by rintro ⟨_, _, h3⟩; omega)]
            exact q5
      · have hrun := run_append_grow (P := Z.P) w t o.type e jf ze hu hinfo hze ⟨blk, off, none⟩ es.length cap olds (by rw [hol, hsz]) hocell ⟨xb, xo, none⟩ xs.length mc news (by rw [hnl, hsz]) hncell (by omega) (by omega) (growslice_fits (by omega) (by rw [hby]; exact hbig))
        have hge := grownCap_ge w (es.length + xs.length) cap e
        obtain ⟨G1, q1, q2, q3⟩ := hr.newRow (.t k) (e := e) (sz := sz) (len := es.length + xs.length) (cap := grownCap w (es.length + xs.length) cap e) (es := es ++ xs) (cells := olds.toArray ++ news.toArray ++ Builtin.zeroCells ze.cells (grownCap w (es.length + xs.length) cap e - (es.length + xs.length))) hge
          hmax (by simp only [Array.size_append, List.size_toArray, size_zeroCells, hzec, hnl, hol, ← Nat.add_mul]; congr 1; omega) hexl (fun i row hi => by
            rw [List.getElem?_append] at hi
            split at hi
            · exact (hcr.elem.2.2.2 _ row hi).1
            · exact (hxr.elem.2.2.2 _ row hi).1) (rows_append hol horep hnrep _)
        exact done G1 _ _ hrun q1 q2 q3
end
end Go.Abs
