/- The given statement CodecValid: for every input the law returns true, and the input reads as before. No condition. -/
import Derived.Test.YtgjclggjkhapfaaM6
import Derived.Test.YtgjclggjkhapfaaRows
import Derived.ProofKit
import Derived.OpenShut
import Derived.ChangeOld
/- Laws of the codec (plain): what is encoded is decoded, and back. -/
set_option linter.unusedVariables false
set_option linter.unusedSimpArgs false
namespace Go.Proofs.Ytgjclggjkhapfaa
open Go Go.Abs
theorem getD_mid (p : List UInt8) (b : UInt8) (q : List UInt8) : (p ++ b :: q).getD p.length 0 = b := by simp
theorem slice_mid (p l q : List UInt8) : ((p ++ (l ++ q)).take (p.length + l.length)).drop p.length = l := by
  rw [List.take_length_add_append, List.take_left', List.drop_left']
  · rfl
  · rfl
theorem tag_mid : ∀ (l p q : List UInt8) (e : Nat), p.length + l.length ≤ e → tagP (p ++ (l ++ q)) e l p.length = ⟨v0, p.length + l.length, true⟩
  | [], p, q, e, h => by rw [tagP]; rfl
  | c :: l, p, q, e, h => by
    have ih := tag_mid l (p ++ [c]) q e (by simp at h ⊢; omega)
    rw [List.append_assoc, List.singleton_append] at ih
    simp only [List.length_append, List.length_singleton] at ih
    rw [tagP, List.cons_append, getD_mid, if_neg (by simp only [List.length_cons] at h; rintro (h1 | h1); omega; exact h1 rfl), ih]
    simp only [List.length_cons]
    rw [show p.length + 1 + l.length = p.length + (l.length + 1) by omega]
theorem fvE_both {rec : Int → V → Int} {f : Fd} {v : V} (h : fvE rec f v = 0) : fitsB f v = true ∧ rngB f v = true := by
  unfold fvE at h
  split at h
  · simp at h
  · rename_i h1
    split at h
    · simp at h
    · rename_i h2
      exact ⟨by simpa using h1, by simpa using h2⟩
theorem V.of_bytes {x : V} (h1 : x.number = 0) (h2 : x.kids.length = 0) : x = bv x.bytes := V.ext' rfl h1 (List.eq_nil_of_length_eq_zero h2)
theorem fld_mid {k : Bool} {rec : Int → Nat → Nat → Pl} {rec' : Int → V → Int} {r : Int → V → List UInt8} {t : List Fm} {f : Fd} {x : V} {s p q : List UInt8} {e : Nat} {pre : Bool} (hf : FdOk f) (hv : fvE rec' f x = 0) (h5 : f.kind ≠ 5)
    (hs : s = p ++ (encF r f x ++ q)) (he : p.length + (encF r f x).length ≤ e) (h6 : f.kind = 6 → e = p.length + (encF r f x).length) :
    fldP k rec t f s p.length e pre = ⟨x, p.length + (encF r f x).length, true⟩ := by
  obtain ⟨h1, h2⟩ := fvE_both hv
  obtain ⟨w1, w3, w2, w4⟩ := fvE_ok hf hv fun q => absurd q h5
  obtain ⟨k1, k2, k3, k4, k5, k6, k7⟩ := hf
  obtain kd | kd | kd | kd | kd : f.kind = 1 ∨ f.kind = 2 ∨ f.kind = 3 ∨ f.kind = 4 ∨ f.kind = 6 := by omega
  · have hx : x = v0 := by
      unfold fitsB at h1
      rw [if_pos kd] at h1
      unfold zeroB at h1
      simp only [Bool.and_eq_true, decide_eq_true_eq] at h1
      exact V.ext' h1.1.1 h1.1.2 (List.eq_nil_of_length_eq_zero h1.2)
    have he' : encF r f x = f.bytes := by rw [encF, if_pos kd]
    rw [he'] at hs he ⊢
    rw [fldP, if_pos kd, hs, tag_mid _ _ _ _ he, hx]
  · have he' : encF r f x = x.bytes := by unfold encF; rw [if_neg (by omega), if_neg (by omega), if_neg (by omega), if_neg (by omega)]
    rw [he'] at hs he ⊢
    unfold fitsB at h1
    rw [if_neg (by omega), if_neg (by omega), if_neg (by omega)] at h1
    unfold rngB at h2
    rw [if_pos kd] at h2
    simp only [Bool.and_eq_true, decide_eq_true_eq] at h1 h2
    have hn : f.n.toNat = x.bytes.length := by omega
    rw [fldP, if_neg (by omega), if_pos kd, takeP, hn, if_neg (by omega), hs, slice_mid, ← V.of_bytes h1.1 h1.2]
  · have he' : encF r f x = UInt8.ofNat x.bytes.length :: x.bytes := by unfold encF; rw [if_neg (by omega), if_pos kd]
    rw [he'] at hs he ⊢
    unfold fitsB at h1
    rw [if_neg (by omega), if_neg (by omega), if_neg (by omega)] at h1
    unfold rngB at h2
    rw [if_neg (by omega), if_pos kd] at h2
    simp only [Bool.and_eq_true, decide_eq_true_eq] at h1 h2
    have hb : s.getD p.length 0 = UInt8.ofNat x.bytes.length := by rw [hs, List.cons_append, getD_mid]
    have hbn : (UInt8.ofNat x.bytes.length).toNat = x.bytes.length := by rw [UInt8.toNat_ofNat']; have := w3 kd; omega
    simp only [List.length_cons] at he ⊢
    rw [fldP, if_neg (by omega), if_neg (by omega), if_pos kd, if_neg (by omega), hb, hbn, if_neg (by omega), takeP, if_neg (by omega)]
    have hs2 : s = (p ++ [UInt8.ofNat x.bytes.length]) ++ (x.bytes ++ q) := by rw [hs]; simp
    have hsl := slice_mid (p ++ [UInt8.ofNat x.bytes.length]) x.bytes q
    simp only [List.length_append, List.length_singleton] at hsl
    rw [hs2, hsl, ← V.of_bytes h1.1 h1.2, show p.length + 1 + x.bytes.length = p.length + (x.bytes.length + 1) by omega]
  · have he' : encF r f x = [UInt8.ofNat x.number.toNat] := by unfold encF; rw [if_neg (by omega), if_neg (by omega), if_pos kd]
    rw [he'] at hs he ⊢
    unfold fitsB at h1
    rw [if_neg (by omega), if_pos kd] at h1
    unfold rngB at h2
    rw [if_neg (by omega), if_neg (by omega), if_pos kd] at h2
    simp only [Bool.and_eq_true, decide_eq_true_eq] at h1 h2
    have hb : s.getD p.length 0 = UInt8.ofNat x.number.toNat := by rw [hs, List.singleton_append, getD_mid]
    have hw := w4 kd
    have hbn : ((UInt8.ofNat x.number.toNat).toNat : Int) = x.number := by rw [UInt8.toNat_ofNat']; omega
    simp only [List.length_singleton] at he ⊢
    rw [fldP, if_neg (by omega), if_neg (by omega), if_neg (by omega), if_pos kd, if_neg (by omega), hb, hbn, if_neg (by omega)]
    have : V.mk [] x.number [] = x := V.ext' h1.1.symm rfl (List.eq_nil_of_length_eq_zero h1.2).symm
    rw [this]
  · have he' : encF r f x = x.bytes := by unfold encF; rw [if_neg (by omega), if_neg (by omega), if_neg (by omega), if_neg (by omega)]
    have h6 := h6 kd
    rw [he'] at hs he h6 ⊢
    unfold fitsB at h1
    rw [if_neg (by omega), if_neg (by omega), if_neg (by omega)] at h1
    unfold rngB at h2
    rw [if_neg (by omega), if_neg (by omega), if_neg (by omega), if_pos kd] at h2
    simp only [Bool.and_eq_true, decide_eq_true_eq] at h1 h2
    have hn : e - p.length = x.bytes.length := by omega
    rw [fldP, if_neg (by omega), if_neg (by omega), if_neg (by omega), if_neg (by omega), if_neg (by omega), hn, if_neg (by omega), if_neg (by omega), show min x.bytes.length f.high.toNat = x.bytes.length by omega, takeP, if_neg (by omega), hs, slice_mid, ← V.of_bytes h1.1 h1.2]
theorem readL_mid {k : Bool} {rec : Int → Nat → Nat → Pl} {r : Int → V → List UInt8} {t : List Fm} {s : List UInt8} {pre : Bool} : ∀ (fs : List Fd) (vs acc : List V) (p q : List UInt8), vs.length = fs.length → s = p ++ (encL r fs vs ++ q) →
    (∀ j, j < fs.length → ∀ (p q : List UInt8) (e : Nat), s = p ++ (encF r (fs.getD j default) (vs.getD j default) ++ q) → p.length + (encF r (fs.getD j default) (vs.getD j default)).length ≤ e →
      (j + 1 = fs.length → e = p.length + (encF r (fs.getD j default) (vs.getD j default)).length) → fldP k rec t (fs.getD j default) s p.length e pre = ⟨vs.getD j default, p.length + (encF r (fs.getD j default) (vs.getD j default)).length, true⟩) →
    readL k rec t s (p.length + (encL r fs vs).length) pre fs acc p.length = ⟨.mk [] 0 (acc ++ vs), p.length + (encL r fs vs).length, true⟩
  | [], [], acc, p, q, _, _, _ => by rw [readL, List.append_nil]; rfl
  | [], _ :: _, _, _, _, h, _, _ => by simp at h
  | _ :: _, [], _, _, _, h, _, _ => by simp at h
  | f :: fs, v :: vs, acc, p, q, hl, hs, h => by
    have hs' : s = p ++ (encF r f v ++ (encL r fs vs ++ q)) := by rw [hs, encL, List.append_assoc]
    have h0 := h 0 (by simp) p (encL r fs vs ++ q) (p.length + (encL r (f :: fs) (v :: vs)).length) (by simpa using hs') (by simp [encL]) (by
      intro h1
      have : fs = [] := by simpa using h1.symm
      subst this
      have : vs = [] := by simpa using hl
      subst this
      simp [encL])
    simp only [List.getD_cons_zero] at h0
    have hs2 : s = (p ++ encF r f v) ++ (encL r fs vs ++ q) := by rw [hs', List.append_assoc]
    have ih := readL_mid fs vs (acc ++ [v]) (p ++ encF r f v) q (by simpa using hl) hs2 fun j hj p q e a b c => by
      have := h (j + 1) (by simpa using hj) p q e (by simpa using a) (by simpa using b) (by intro hh; simpa using c (by simpa using hh))
      simpa using this
    simp only [List.length_append] at ih
    rw [readL, h0, if_pos rfl]
    simp only [encL, List.length_append]
    rw [← Nat.add_assoc, ih, List.append_assoc]
    rfl
/-- The lengths are within the bounds. -/
theorem encF_bnd {rec' : Int → V → Int} {r : Int → V → List UInt8} {rb : Int → Int × Int} {f : Fd} {x : V} (hf : FdOk f) (hv : fvE rec' f x = 0) (h5 : f.kind = 5 → (rb f.n).1 ≤ (r f.n x).length ∧ ((r f.n x).length : Int) ≤ (rb f.n).2) :
    (bndF rb f).1 ≤ (encF r f x).length ∧ ((encF r f x).length : Int) ≤ (bndF rb f).2 := by
  obtain ⟨h1, h2⟩ := fvE_both hv
  obtain ⟨k1, k2, k3, k4, k5, k6, k7⟩ := hf
  obtain ⟨c1, c2, c3, c4, c5, c6⟩ := bndF_cases rb f
  unfold rngB at h2
  unfold encF
  obtain kd | kd | kd | kd | kd | kd : f.kind = 1 ∨ f.kind = 2 ∨ f.kind = 3 ∨ f.kind = 4 ∨ f.kind = 5 ∨ f.kind = 6 := by omega
  · have := c1 kd; rw [if_pos kd]; omega
  · have := c2 kd; rw [if_pos kd] at h2; simp only [decide_eq_true_eq] at h2; rw [if_neg (by omega), if_neg (by omega), if_neg (by omega), if_neg (by omega)]; omega
  · have := c3 kd; rw [if_neg (by omega), if_pos kd] at h2; simp only [decide_eq_true_eq] at h2; rw [if_neg (by omega), if_pos kd]; simp only [List.length_cons]; omega
  · have := c4 kd; rw [if_neg (by omega), if_neg (by omega), if_pos kd]; simp only [List.length_singleton]; omega
  · have := c5 kd; have := h5 kd; rw [if_neg (by omega), if_neg (by omega), if_neg (by omega), if_pos kd]; simp only [List.length_cons]; omega
  · have := c6 kd; rw [if_neg (by omega), if_neg (by omega), if_neg (by omega), if_pos kd] at h2; simp only [Bool.and_eq_true, decide_eq_true_eq] at h2; rw [if_neg (by omega), if_neg (by omega), if_neg (by omega), if_neg (by omega)]; omega
theorem encL_bnd {r : Int → V → List UInt8} {rb : Int → Int × Int} : ∀ {fs : List Fd} {vs : List V}, vs.length = fs.length → (∀ j, j < fs.length → (bndF rb (fs.getD j default)).1 ≤ (encF r (fs.getD j default) (vs.getD j default)).length ∧ ((encF r (fs.getD j default) (vs.getD j default)).length : Int) ≤ (bndF rb (fs.getD j default)).2) →
    (bndL rb fs).1 ≤ (encL r fs vs).length ∧ ((encL r fs vs).length : Int) ≤ (bndL rb fs).2
  | [], [], _, _ => by simp [bndL, encL]
  | [], _ :: _, h, _ => by simp at h
  | _ :: _, [], h, _ => by simp at h
  | f :: fs, v :: vs, hl, h => by
    have h0 := h 0 (by simp)
    simp only [List.getD_cons_zero] at h0
    have ih := encL_bnd (r := r) (rb := rb) (fs := fs) (vs := vs) (by simpa using hl) fun j hj => by have := h (j + 1) (by simpa using hj); simpa using this
    simp only [bndL, encL, List.length_append]
    omega
theorem enc0_bnd {t : List Fm} {i : Int} {v : V} (hp : Plain1 (t.getD i.toNat default).fields) (h : val0 t i v = 0) : (bnd0 t i).1 ≤ (enc0 t i v).length ∧ ((enc0 t i v).length : Int) ≤ (bnd0 t i).2 :=
  encL_bnd (valG_ok h).2.2.1 fun j hj => encF_bnd (hp.ok j hj).1 ((valG_ok h).2.2.2 j hj) fun h5 => absurd h5 (hp.ok j hj).2.1
theorem encT_bnd {t : List Fm} {i : Int} {v : V} (hf : Fds t (t.getD i.toNat default).fields) (h : valT t i v = 0) : (bndT t i).1 ≤ (encT t i v).length ∧ ((encT t i v).length : Int) ≤ (bndT t i).2 :=
  encL_bnd (valG_ok h).2.2.1 fun j hj => encF_bnd (hf.ok j hj) ((valG_ok h).2.2.2 j hj) fun h5 => enc0_bnd (hf.nest j hj h5).2 (fvE_five h5 ((valG_ok h).2.2.2 j hj))
theorem V.of_kids {v : V} (h1 : v.bytes = []) (h2 : v.number = 0) : V.mk [] 0 v.kids = v := V.ext' h1.symm h2.symm rfl
theorem read0_mid {t : List Fm} {i : Int} {v : V} {s p q : List UInt8} (hp : Plain1 (t.getD i.toNat default).fields) (h : val0 t i v = 0) (hs : s = p ++ (enc0 t i v ++ q)) :
    read0 false t s i p.length (p.length + (enc0 t i v).length) = ⟨v, p.length + (enc0 t i v).length, true⟩ := by
  have hk := valG_ok h
  have := readL_mid (k := false) (rec := fun _ _ _ => failP 0) (r := fun _ _ => []) (t := t) (s := s) (pre := false) (t.getD i.toNat default).fields v.kids [] p q hk.2.2.1 hs fun j hj p q e a b c =>
    fld_mid (hp.ok j hj).1 (hk.2.2.2 j hj) (hp.ok j hj).2.1 a b fun h6 => absurd h6 (hp.ok j hj).2.2
  rw [List.nil_append, V.of_kids hk.1 hk.2.1] at this
  exact this
/-- A nested format is valid by itself. -/
theorem errE_nest {t : List Fm} {i : Int} (he : errE t i = 0) {k : Nat} (hk : k < (t.getD i.toNat default).fields.length) (h5 : ((t.getD i.toNat default).fields.getD k default).kind = 5) :
    errE t ((t.getD i.toNat default).fields.getD k default).n = 0 := by
  obtain ⟨hi, h⟩ := errE_fds he
  obtain ⟨q1, q2⟩ := h.nest k hk h5
  have q3 := (h.ok k hk).n
  have hv : validE t = 0 := by
    unfold errE at he
    split at he
    · rename_i hh; exact absurd he hh
    · rename_i hh; exact Decidable.not_not.1 hh
  unfold errE
  rw [if_neg (by omega), if_neg (by omega)]
theorem rest_last {t : List Fm} {i : Int} (he : errE t i = 0) (k : Nat) (hk : k < (t.getD i.toNat default).fields.length) (h6 : ((t.getD i.toNat default).fields.getD k default).kind = 6) : k + 1 = (t.getD i.toNat default).fields.length := by
  obtain ⟨h1, h2, h3⟩ := errE_zero he
  have := h1.fd i.toNat (by omega) k hk
  have := (fieldE_rng this).2.1
  unfold rangeB at this
  rw [if_neg (by omega), if_neg (by omega), if_neg (by omega), if_neg (by omega), if_pos h6] at this
  simp only [Bool.and_eq_true, decide_eq_true_eq] at this
  exact this.1.1.1
theorem nest_mid {t : List Fm} {n : Int} {v : V} {s p q : List UInt8} {e : Nat} (he : errE t n = 0) (hp : Plain1 (t.getD n.toNat default).fields) (h : val0 t n v = 0) (hs : s = p ++ (UInt8.ofNat (enc0 t n v).length :: enc0 t n v ++ q)) (hle : p.length + ((enc0 t n v).length + 1) ≤ e) :
    nestP false (read0 false t s) t n s p.length e = ⟨v, p.length + ((enc0 t n v).length + 1), true⟩ := by
  have hb : s.getD p.length 0 = UInt8.ofNat (enc0 t n v).length := by rw [hs, List.cons_append, getD_mid]
  have hl := enc0_len hp h
  have hbn : (UInt8.ofNat (enc0 t n v).length).toNat = (enc0 t n v).length := by rw [UInt8.toNat_ofNat']; omega
  have hs2 : s = (p ++ [UInt8.ofNat (enc0 t n v).length]) ++ (enc0 t n v ++ q) := by rw [hs]; simp
  have hr := read0_mid hp h hs2
  simp only [List.length_append, List.length_singleton] at hr
  have hbd := enc0_bnd hp h
  obtain ⟨z1, z2⟩ := boundsE_zero he
  rw [bnd_nest hp] at z1 z2
  rw [nestP, if_neg (by omega), hb, hbn, if_neg (by omega), if_neg (by omega), hr, if_neg (by simp)]
  rw [show p.length + 1 + (enc0 t n v).length = p.length + ((enc0 t n v).length + 1) by omega]
/-- Decoding leads back. -/
theorem dec_enc {t : List Fm} {i : Int} {v : V} (h : valE t i v = 0) : decE t i (encT t i v) = (v, 0, 0) := by
  have he : errE t i = 0 := by
    unfold valE at h
    split at h
    · rename_i h1; exact absurd h h1
    · rename_i h1; exact Decidable.not_not.1 h1
  obtain ⟨⟨hi, hf⟩, hv⟩ := valE_zero h
  have hk := valG_ok hv
  have key := readL_mid (k := false) (rec := read0 false t (encT t i v)) (r := enc0 t) (t := t) (s := encT t i v) (pre := false) (t.getD i.toNat default).fields v.kids [] [] [] hk.2.2.1 (by rw [List.nil_append, List.append_nil]; rfl) fun j hj p q e a b c => by
    by_cases h5 : ((t.getD i.toNat default).fields.getD j default).kind = 5
    · have he5 : encF (enc0 t) ((t.getD i.toNat default).fields.getD j default) (v.kids.getD j default) = UInt8.ofNat (enc0 t ((t.getD i.toNat default).fields.getD j default).n (v.kids.getD j default)).length :: enc0 t ((t.getD i.toNat default).fields.getD j default).n (v.kids.getD j default) := by
        unfold encF; rw [if_neg (by omega), if_neg (by omega), if_neg (by omega), if_pos h5]
      rw [he5] at a b ⊢
      simp only [List.length_cons] at b ⊢
      have := nest_mid (errE_nest he hj h5) (hf.nest j hj h5).2 (fvE_five h5 (hk.2.2.2 j hj)) a b
      rw [fldP, if_neg (by omega), if_neg (by omega), if_neg (by omega), if_neg (by omega), if_pos h5]
      exact this
    · exact fld_mid (hf.ok j hj) (hk.2.2.2 j hj) h5 a b fun h6 => c (rest_last he j hj h6)
  rw [List.nil_append, V.of_kids hk.1 hk.2.1] at key
  simp only [List.length_nil, Nat.zero_add] at key
  have hr : readT false t (encT t i v) false i 0 (encT t i v).length = ⟨v, (encT t i v).length, true⟩ := key
  rw [decE, if_neg (by omega), hr, if_neg (by simp)]
end Go.Proofs.Ytgjclggjkhapfaa
/- Contracts: the law CodecValid. -/
set_option linter.unusedVariables false
set_option linter.unusedSimpArgs false
namespace Go.Proofs.Ytgjclggjkhapfaa
open Go Go.Abs
theorem encE_len (t : List Fm) (i : Int) (v : V) : (encE t i v).1.length ≤ 100000 := by
  unfold encE
  split
  · simp
  · rename_i h
    have h := valE_zero (Decidable.not_not.1 h)
    have := encT_len h.1.2 h.2
    dsimp only; omega
theorem CodecValid_spec (t : List Fm) (i : Int) (v : V) : Ctr sys 3 [xtab t, xi i, xv v] [] (xb true) none [] := by
  refine spec_intro Try.func3 rfl rfl rfl rfl rfl rfl ?_
  refine awp_seq (awp_region ?_)
  refine al_do rfl (does_box rfl rfl rfl rfl) ?_
  refine al_pure rfl rfl rfl (pure_assign rfl gU) ?_
  refine al_nil ?_
  refine awp_seq ?_
  refine awp_seq (awp_region ?_)
  refine al_call rfl rfl rfl rfl rfl rfl gU gU (awake_spec) rfl ?_
  refine al_pure rfl rfl rfl (pure_not rfl gU) ?_
  refine al_pure rfl rfl rfl (pure_move rfl gU) ?_
  refine al_pure rfl rfl rfl (pure_move rfl gU) ?_
  refine al_call rfl rfl rfl rfl rfl rfl gU (fun hh => gA ((fun hh => hh) hh) (rfl)) (Few_spec _) rfl ?_
  refine al_pure rfl rfl rfl (pure_not rfl (fun hh => hh)) ?_
  refine al_pure rfl rfl rfl (pure_or rfl rfl gU (fun _ hi => gP rfl hi)) ?_
  refine al_pure rfl rfl rfl (pure_move rfl gU) ?_
  refine al_pure rfl rfl rfl (pure_loadBoxRow rfl gU rfl rfl rfl rfl rfl) ?_
  refine al_call rfl rfl rfl rfl rfl rfl gU (fun hh => gA ((fun hh => hh) hh) (gA rfl (rfl))) (fewV_spec 4 _ _ rfl (by decide)) rfl ?_
  refine al_sub (s := { t := [(0, _, _), (1, _, _), (5, _, _), (21, _, _), (23, _, _)], bx := [((.l 5), _)], ow := [] }) (sub_mk (⟨sx rfl, ⟨sx rfl, ⟨sx rfl, ⟨sx rfl, ⟨sx rfl, trivial⟩⟩⟩⟩⟩) (⟨sx rfl, trivial⟩) trivial) ?_
  refine al_pure rfl rfl rfl (pure_not rfl (fun hh => hh)) ?_
  refine al_pure rfl rfl rfl (pure_or rfl rfl gU (fun _ hi => gP rfl hi)) ?_
  refine al_nil ?_
  refine awp_cond rfl (fun hc => ?_) (fun hc => ?_)
  · refine awp_seq (awp_region ?_)
    refine al_call rfl rfl rfl rfl rfl rfl gU gU (awake_spec) rfl ?_
    refine al_pure rfl rfl rfl (pure_assign rfl gU) ?_
    refine al_nil ?_
    refine awp_ret ?_
    repeat (first | refine tR ?_ | refine bR ?_)
    refine ret_ok rfl ?_ trivial
    rfl
  · refine awp_skip ?_
    refine awp_seq (awp_region ?_)
    refine al_pure rfl rfl rfl (pure_move rfl gU) ?_
    refine al_pure rfl rfl rfl (pure_move rfl gU) ?_
    refine al_pure rfl rfl rfl (pure_loadBoxRow rfl gU rfl rfl rfl rfl rfl) ?_
    refine al_call rfl rfl rfl rfl rfl rfl gU gU (cEncode_spec _ _ _) rfl ?_
    refine al_pure rfl rfl rfl (pure_move rfl gU) ?_
    refine al_pure rfl rfl rfl (pure_extract rfl gU rfl) ?_
    refine al_pure rfl rfl rfl (pure_extract rfl gU rfl) ?_
    refine al_pure rfl rfl rfl (pure_assign rfl gU) ?_
    refine al_pure rfl rfl rfl (pure_assign rfl gU) ?_
    refine al_nil ?_
    refine awp_sub (s := { t := [(0, _, _), (1, _, _), (5, _, _), (7, _, _), (8, _, _)], bx := [((.l 5), _)], ow := [] }) (sub_mk (⟨sx rfl, ⟨sx rfl, ⟨sx rfl, ⟨sx rfl, ⟨sx rfl, trivial⟩⟩⟩⟩⟩) (⟨sx rfl, trivial⟩) trivial) ?_
    refine awp_seq (awp_region ?_)
    refine al_pure rfl rfl rfl (pure_move rfl gU) ?_
    refine al_pure rfl rfl rfl (pure_move rfl gU) ?_
    refine al_pure rfl rfl rfl (pure_loadBoxRow rfl gU rfl rfl rfl rfl rfl) ?_
    refine al_call rfl rfl rfl rfl rfl rfl gU gU (rEncode_spec _ _ _) rfl ?_
    refine al_pure rfl rfl rfl (pure_move rfl gU) ?_
    refine al_pure rfl rfl rfl (pure_extract rfl gU rfl) ?_
    refine al_pure rfl rfl rfl (pure_extract rfl gU rfl) ?_
    refine al_pure rfl rfl rfl (pure_assign rfl gU) ?_
    refine al_pure rfl rfl rfl (pure_assign rfl gU) ?_
    refine al_nil ?_
    refine awp_sub (s := { t := [(0, _, _), (1, _, _), (5, _, _), (7, _, _), (8, _, _), (9, _, _), (10, _, _)], bx := [((.l 5), _)], ow := [] }) (sub_mk (⟨sx rfl, ⟨sx rfl, ⟨sx rfl, ⟨sx rfl, ⟨sx rfl, ⟨sx rfl, ⟨sx rfl, trivial⟩⟩⟩⟩⟩⟩⟩) (⟨sx rfl, trivial⟩) trivial) ?_
    refine awp_seq ?_
    refine awp_seq ?_
    refine awp_drawn' (by kernel_rfl) ?_
    refine dr_pure rfl rfl rfl rfl (pure_move rfl gU) ?_
    refine dr_pure rfl rfl rfl rfl (pure_move rfl gU) ?_
    refine dr_loadRow rfl rfl rfl rfl rfl rfl rfl gU rfl rfl rfl rfl rfl ?_
    refine dr_callN rfl rfl rfl rfl rfl rfl rfl gU gU (cValid_spec _ _ _) rfl ?_
    refine dr_pure rfl rfl rfl rfl (pure_move rfl gU) ?_
    refine dr_pure rfl rfl rfl rfl (pure_move rfl gU) ?_
    refine dr_loadRow rfl rfl rfl rfl rfl rfl rfl gU rfl rfl rfl rfl rfl ?_
    refine dr_callN rfl rfl rfl rfl rfl rfl rfl gU gU (rVal_spec _ _ _) rfl ?_
    refine dr_pure rfl rfl rfl rfl (pure_cmp rfl rfl gU gU rfl) ?_
    refine dr_pure rfl rfl rfl rfl (pure_move rfl gU) ?_
    refine dr_pure rfl rfl rfl rfl (pure_move rfl gU) ?_
    refine dr_pure rfl rfl rfl rfl (pure_move rfl gU) ?_
    refine dr_pure rfl rfl rfl rfl (pure_cmpS rfl rfl (fun hh => hh) (fun hh => hh) rfl) ?_
    refine dr_pure rfl rfl rfl rfl (pure_or rfl rfl gU (fun _ hi => gP rfl hi)) ?_
    refine dr_pure rfl rfl rfl rfl (pure_move rfl gU) ?_
    refine dr_pure rfl rfl rfl rfl (pure_move rfl gU) ?_
    refine dr_pure rfl rfl rfl rfl (pure_move rfl gU) ?_
    refine dr_pure rfl rfl rfl rfl (pure_cmp rfl rfl (fun hh => hh) (fun hh => hh) rfl) ?_
    refine dr_pure rfl rfl rfl rfl (pure_or rfl rfl gU (fun _ hi => gP rfl hi)) ?_
    refine dr_pure rfl rfl rfl rfl (pure_move rfl gU) ?_
    refine dr_pure rfl rfl rfl rfl (pure_move rfl gU) ?_
    refine dr_pure rfl rfl rfl rfl (pure_cmp rfl rfl (fun hh => hh) gU rfl) ?_
    refine dr_pure rfl rfl rfl rfl (pure_or rfl rfl gU (fun _ hi => gP rfl hi)) ?_
    refine dr_nil (by kernel_rfl) ?_
    refine awp_sub (s := { t := [(0, _, _), (1, _, _), (5, _, _), (7, _, _), (8, _, _), (9, _, _), (10, _, _), (63, _, _)], bx := [((.l 5), _)], ow := [] }) (sub_mk (⟨sx rfl, ⟨sx rfl, ⟨sx rfl, ⟨sx rfl, ⟨sx rfl, ⟨sx rfl, ⟨sx rfl, ⟨sx rfl, trivial⟩⟩⟩⟩⟩⟩⟩⟩) (⟨sx rfl, trivial⟩) trivial) ?_
    refine awp_cond rfl (fun hc2 => ?_) (fun hc2 => ?_)
    · refine awp_seq ?_
      refine awp_drawn' (by kernel_rfl) ?_
      refine dr_pure rfl rfl rfl rfl (pure_move rfl gU) ?_
      refine dr_pure rfl rfl rfl rfl (pure_move rfl gU) ?_
      refine dr_loadRow rfl rfl rfl rfl rfl rfl rfl gU rfl rfl rfl rfl rfl ?_
      refine dr_callN rfl rfl rfl rfl rfl rfl rfl gU gU (cValid_spec _ _ _) rfl ?_
      refine dr_pure rfl rfl rfl rfl (pure_move rfl gU) ?_
      refine dr_pure rfl rfl rfl rfl (pure_move rfl gU) ?_
      refine dr_loadRow rfl rfl rfl rfl rfl rfl rfl gU rfl rfl rfl rfl rfl ?_
      refine dr_callN rfl rfl rfl rfl rfl rfl rfl gU gU (rVal_spec _ _ _) rfl ?_
      refine dr_pure rfl rfl rfl rfl (pure_cmp rfl rfl gU gU rfl) ?_
      refine dr_pure rfl rfl rfl rfl (pure_move rfl gU) ?_
      refine dr_pure rfl rfl rfl rfl (pure_move rfl gU) ?_
      refine dr_pure rfl rfl rfl rfl (pure_move rfl gU) ?_
      refine dr_pure rfl rfl rfl rfl (pure_cmpS rfl rfl (fun hh => hh) (fun hh => hh) rfl) ?_
      refine dr_pure rfl rfl rfl rfl (pure_and rfl rfl gU (fun _ hi => gP rfl hi)) ?_
      refine dr_pure rfl rfl rfl rfl (pure_move rfl gU) ?_
      refine dr_pure rfl rfl rfl rfl (pure_move rfl gU) ?_
      refine dr_pure rfl rfl rfl rfl (pure_move rfl gU) ?_
      refine dr_pure rfl rfl rfl rfl (pure_cmp rfl rfl (fun hh => hh) (fun hh => hh) rfl) ?_
      refine dr_pure rfl rfl rfl rfl (pure_and rfl rfl gU (fun _ hi => gP rfl hi)) ?_
      refine dr_pure rfl rfl rfl rfl (pure_assign rfl gU) ?_
      refine dr_nil (by kernel_rfl) ?_
      refine awp_ret ?_
      repeat (first | refine tR ?_ | refine bR ?_)
      refine ret_ok rfl ?_ trivial
      exact xb_eq (by simp)
    · try simp only [nn, Fd.rows_len, Fm.rows_len, V.rows_len, intR_len] at hc2
      have hv : valE t i v = 0 := by
        by_cases h : valE t i v = 0
        · exact h
        · exfalso
          have : (encE t i v).2 = valE t i v := by rw [encE, if_pos h]
          rw [this] at hc2
          simp [h] at hc2
      have he : (encE t i v).1 = encT t i v := by rw [encE, if_neg (by omega)]
      have hd : decE t i (encE t i v).1 = (v, 0, 0) := by rw [he]; exact dec_enc hv
      refine awp_skip ?_
      refine awp_seq (awp_region ?_)
      refine al_pure rfl rfl rfl (pure_move rfl gU) ?_
      refine al_pure rfl rfl rfl (pure_move rfl gU) ?_
      refine al_pure rfl rfl rfl (pure_move rfl gU) ?_
      refine al_call rfl rfl rfl rfl rfl rfl gU gU (cDecode_spec _ _ _ (encE_len _ _ _)) rfl ?_
      refine al_pure rfl rfl rfl (pure_move rfl gU) ?_
      refine al_pure rfl rfl rfl (pure_extract rfl gU rfl) ?_
      refine al_pure rfl rfl rfl (pure_extract rfl gU rfl) ?_
      refine al_pure rfl rfl rfl (pure_extract rfl gU rfl) ?_
      refine al_do rfl (does_alloc rfl rfl rfl) ?_
      refine al_do rfl (does_store rfl rfl rfl rfl rfl rfl rfl) ?_
      refine al_pure rfl rfl rfl (pure_assign rfl gU) ?_
      refine al_pure rfl rfl rfl (pure_assign rfl gU) ?_
      refine al_nil ?_
      refine awp_sub (s := { t := [(5, _, _), (11, _, _), (12, _, _), (13, _, _)], bx := [((.l 11), _), ((.l 5), _)], ow := [] }) (sub_mk (⟨sx rfl, ⟨sx rfl, ⟨sx rfl, ⟨sx rfl, trivial⟩⟩⟩⟩) (⟨sx rfl, ⟨sx rfl, trivial⟩⟩) trivial) ?_
      refine awp_seq (awp_region ?_)
      refine al_pure rfl rfl rfl (pure_move rfl gU) ?_
      refine al_pure rfl rfl rfl (pure_cmp rfl rfl gU gU rfl) ?_
      refine al_pure rfl rfl rfl (pure_move rfl gU) ?_
      refine al_pure rfl rfl rfl (pure_move rfl gU) ?_
      refine al_pure rfl rfl rfl (pure_cmp rfl rfl (fun hh => hh) gU rfl) ?_
      refine al_pure rfl rfl rfl (pure_and rfl rfl gU (fun _ hi => gP rfl hi)) ?_
      refine al_pure rfl rfl rfl (pure_move rfl gU) ?_
      refine al_pure rfl rfl rfl (pure_loadBoxRow rfl gU rfl rfl rfl rfl rfl) ?_
      refine al_pure rfl rfl rfl (pure_loadBoxRow rfl gU rfl rfl rfl rfl rfl) ?_
      refine al_call rfl rfl rfl rfl rfl rfl gU (fun hh => gA ((fun hh => hh) hh) (gA ((fun hh => hh) hh) (rfl))) (Same_spec _ _ _ (Nat.le_refl _)) rfl ?_
      refine al_pure rfl rfl rfl (pure_and rfl rfl gU (fun _ hi => gP rfl hi)) ?_
      refine al_pure rfl rfl rfl (pure_assign rfl gU) ?_
      refine al_nil ?_
      refine awp_ret ?_
      repeat (first | refine tR ?_ | refine bR ?_)
      refine ret_ok rfl ?_ trivial
      rw [hd]
      exact xb_eq (by simp [sameB_eq])
end Go.Proofs.Ytgjclggjkhapfaa
/- The given statement CodecValid: for every input the law returns true, and the input reads as before. No condition. -/
namespace Go.Proofs.Ytgjclggjkhapfaa.codecValidDone
open Go Go.Abs Go.Proofs Go.Proofs.Ytgjclggjkhapfaa
open Go.ChangeShapes Go.WideShapes Go.ChangeAt Go.RowKit
set_option linter.unusedVariables false
set_option linter.unusedSimpArgs false
set_option maxRecDepth 100000 in
theorem lifted (os : Os) (started : os.Started) (H : Type) (enc : TypeId × Value → H) :
    ReturnsInHanded {} Try.checked os 3 .any (Rows.codecValidSpec.pre6 enc Try.prog Try.f3 Rows.codecValidRow.domain false) (Rows.codecValidSpec.post enc Try.prog Try.f3 false true false false) := by
  refine returnsInHanded_of_change (C := Try.checked) own started (by kernel_rfl) Try.func3
    (ChangeSpec.witness6 (enc := enc) (C := Try.checked) false ⟨#[], #[.slice none 0 0, .int .i64 0, .agg #[.string ByteArray.empty, .int .i64 0, .slice none 0 0]], []⟩ 8 (by kernel_rfl) (by kernel_rfl) (by kernel_rfl) (by kernel_rfl)) ?_
  intro W base args ds gs before hval0 hW hcnd _
  have hval : ∀ (j : Nat) t v, Try.f3.params[j]? = some t → args[j]? = some v → Value.okWide Try.prog W .any base t v := hval0
  have hW' := hW
  obtain ⟨p, q, hA0, hV, rfl, hfz, hnd⟩ := hW
  have hA : DataW.TrodAll enc Try.prog W 0 (fun _ => true) true Try.f3.params.toList args.toList ds p := hA0
  rw [Try.params3] at hA hval
  obtain ⟨v0, vs0, d0, ds0, p0, q0, hargs, rfl, rfl, h0, r0⟩ := trodAll_cons hA
  obtain ⟨v1, vs1, d1, ds1, p1, q1, rfl, rfl, rfl, h1, r1⟩ := trodAll_cons r0
  obtain ⟨v2, vs2, d2, ds2, p2, q2, rfl, rfl, rfl, h2, r2⟩ := trodAll_cons r1
  obtain ⟨rfl, rfl, rfl⟩ := trodAll_nil r2
  obtain rfl : args = #[v0, v1, v2] := by cases args; simp_all
  obtain ⟨rfl, rfl⟩ := trodVars_none hV
  have lt0 : ∀ x ∈ p0, x.block < W.heap.size := by obtain ⟨m, hm⟩ := h0; exact DataW.trod_lt m _ _ _ hm
  have lt1 : ∀ x ∈ p1, x.block < W.heap.size := by obtain ⟨m, hm⟩ := h1; exact DataW.trod_lt m _ _ _ hm
  have lt2 : ∀ x ∈ p2, x.block < W.heap.size := by obtain ⟨m, hm⟩ := h2; exact DataW.trod_lt m _ _ _ hm
  obtain ⟨n0, c0, ht0, hx0⟩ := arg_one plainL (by decide) Try.underlying22 rfl (hval 0 22 v0 rfl rfl) h0
  obtain ⟨x0_0, rfl⟩ := table_of ht0
  obtain ⟨n1, c1, ht1, hx1⟩ := arg_one plainL (by decide) Try.underlying3 rfl (hval 1 3 v1 rfl rfl) h1
  obtain ⟨x1_0, rfl⟩ := int1_of ht1
  obtain ⟨n2, c2, ht2, hx2⟩ := arg_row plainL (by decide) Try.underlying25 rfl (hval 2 25 v2 rfl rfl) h2
  obtain ⟨x2_0, rfl⟩ := value1_of ht2
  refine (calls_true (CodecValid_spec x0_0 x1_0 x2_0) (W := W) (vs := [v0, v1, v2]) ⟨hx0, hx1, hx2, trivial⟩).mono fun e W' ⟨he, bel⟩ => ?_
  subst he
  exact ⟨_, rfl, _, _, _, [], _, [], hW', trodAll_mk1 (shut_bool Try.underlying4 _),
    (trodAll_cons_mk (Below.trod laidOut (by kernel_rfl) (of_decide_eq_true (by kernel_rfl)) h0 bel lt0) (trodAll_cons_mk (Below.trod laidOut (by kernel_rfl) (of_decide_eq_true (by kernel_rfl)) h1 bel lt1) (trodAll_cons_mk (Below.trod laidOut (by kernel_rfl) (of_decide_eq_true (by kernel_rfl)) h2 bel lt2) trodAll_mk0))), rfl, bel.frame _, fun h => by cases h⟩
theorem over : Rows.codecValidRow.holds Try.pinned (OpenSpec.ofChange Rows.codecValidSpec) :=
  OpenClaim.holds_of_wide 3 Try.f3 rfl rfl rfl rfl rfl rfl rfl ⟨rfl, rfl, rfl, rfl, rfl⟩ rfl rfl rfl rfl rfl (by kernel_rfl) Try.func3 (by kernel_rfl)
    (of_decide_eq_true (by kernel_rfl)) (by unfold Func.isWrapper; first | (rw [if_pos (by decide +kernel)]; kernel_rfl) | (rw [if_neg (by decide +kernel)]; exact ⟨rfl, rfl⟩))
    (fun os started H enc _ => lifted os started H enc)
theorem proved : Rows.CodecValidSaid := over
#print axioms proved
end Go.Proofs.Ytgjclggjkhapfaa.codecValidDone
