/- The given statement CodecPrefix: for every input the law returns true, and the input reads as before. No condition. -/
import Derived.Test.YtgjclggjkhapfaaM6
import Derived.Test.YtgjclggjkhapfaaRows
import Derived.ProofKit
import Derived.OpenShut
import Derived.ChangeOld
/- Laws of the codec (plain): what is encoded is decoded, and back. -/
set_option linter.unusedVariables false
set_option linter.unusedSimpArgs false
namespace Go.Proofs.Ytgjclggjkhapfaa
open Go Go.Abs
theorem getD_mid (p : List UInt8) (b : UInt8) (q : List UInt8) : (p ++ b :: q).getD p.length 0 = b := by simp
theorem slice_mid (p l q : List UInt8) : ((p ++ (l ++ q)).take (p.length + l.length)).drop p.length = l := by
  rw [List.take_length_add_append, List.take_left', List.drop_left']
  · rfl
  · rfl
theorem tag_mid : ∀ (l p q : List UInt8) (e : Nat), p.length + l.length ≤ e → tagP (p ++ (l ++ q)) e l p.length = ⟨v0, p.length + l.length, true⟩
  | [], p, q, e, h => by rw [tagP]; rfl
  | c :: l, p, q, e, h => by
    have ih := tag_mid l (p ++ [c]) q e (by simp at h ⊢; omega)
    rw [List.append_assoc, List.singleton_append] at ih
    simp only [List.length_append, List.length_singleton] at ih
    rw [tagP, List.cons_append, getD_mid, if_neg (by simp only [List.length_cons] at h; rintro (h1 | h1); omega; exact h1 rfl), ih]
    simp only [List.length_cons]
    rw [show p.length + 1 + l.length = p.length + (l.length + 1) by omega]
theorem fvE_both {rec : Int → V → Int} {f : Fd} {v : V} (h : fvE rec f v = 0) : fitsB f v = true ∧ rngB f v = true := by
  unfold fvE at h
  split at h
  · simp at h
  · rename_i h1
    split at h
    · simp at h
    · rename_i h2
      exact ⟨by simpa using h1, by simpa using h2⟩
theorem V.of_bytes {x : V} (h1 : x.number = 0) (h2 : x.kids.length = 0) : x = bv x.bytes := V.ext' rfl h1 (List.eq_nil_of_length_eq_zero h2)
theorem fld_mid {k : Bool} {rec : Int → Nat → Nat → Pl} {rec' : Int → V → Int} {r : Int → V → List UInt8} {t : List Fm} {f : Fd} {x : V} {s p q : List UInt8} {e : Nat} {pre : Bool} (hf : FdOk f) (hv : fvE rec' f x = 0) (h5 : f.kind ≠ 5)
    (hs : s = p ++ (encF r f x ++ q)) (he : p.length + (encF r f x).length ≤ e) (h6 : f.kind = 6 → e = p.length + (encF r f x).length) :
    fldP k rec t f s p.length e pre = ⟨x, p.length + (encF r f x).length, true⟩ := by
  obtain ⟨h1, h2⟩ := fvE_both hv
  obtain ⟨w1, w3, w2, w4⟩ := fvE_ok hf hv fun q => absurd q h5
  obtain ⟨k1, k2, k3, k4, k5, k6, k7⟩ := hf
  obtain kd | kd | kd | kd | kd : f.kind = 1 ∨ f.kind = 2 ∨ f.kind = 3 ∨ f.kind = 4 ∨ f.kind = 6 := by omega
  · have hx : x = v0 := by
      unfold fitsB at h1
      rw [if_pos kd] at h1
      unfold zeroB at h1
      simp only [Bool.and_eq_true, decide_eq_true_eq] at h1
      exact V.ext' h1.1.1 h1.1.2 (List.eq_nil_of_length_eq_zero h1.2)
    have he' : encF r f x = f.bytes := by rw [encF, if_pos kd]
    rw [he'] at hs he ⊢
    rw [fldP, if_pos kd, hs, tag_mid _ _ _ _ he, hx]
  · have he' : encF r f x = x.bytes := by unfold encF; rw [if_neg (by omega), if_neg (by omega), if_neg (by omega), if_neg (by omega)]
    rw [he'] at hs he ⊢
    unfold fitsB at h1
    rw [if_neg (by omega), if_neg (by omega), if_neg (by omega)] at h1
    unfold rngB at h2
    rw [if_pos kd] at h2
    simp only [Bool.and_eq_true, decide_eq_true_eq] at h1 h2
    have hn : f.n.toNat = x.bytes.length := by omega
    rw [fldP, if_neg (by omega), if_pos kd, takeP, hn, if_neg (by omega), hs, slice_mid, ← V.of_bytes h1.1 h1.2]
  · have he' : encF r f x = UInt8.ofNat x.bytes.length :: x.bytes := by unfold encF; rw [if_neg (by omega), if_pos kd]
    rw [he'] at hs he ⊢
    unfold fitsB at h1
    rw [if_neg (by omega), if_neg (by omega), if_neg (by omega)] at h1
    unfold rngB at h2
    rw [if_neg (by omega), if_pos kd] at h2
    simp only [Bool.and_eq_true, decide_eq_true_eq] at h1 h2
    have hb : s.getD p.length 0 = UInt8.ofNat x.bytes.length := by rw [hs, List.cons_append, getD_mid]
    have hbn : (UInt8.ofNat x.bytes.length).toNat = x.bytes.length := by rw [UInt8.toNat_ofNat']; have := w3 kd; omega
    simp only [List.length_cons] at he ⊢
    rw [fldP, if_neg (by omega), if_neg (by omega), if_pos kd, if_neg (by omega), hb, hbn, if_neg (by omega), takeP, if_neg (by omega)]
    have hs2 : s = (p ++ [UInt8.ofNat x.bytes.length]) ++ (x.bytes ++ q) := by rw [hs]; simp
    have hsl := slice_mid (p ++ [UInt8.ofNat x.bytes.length]) x.bytes q
    simp only [List.length_append, List.length_singleton] at hsl
    rw [hs2, hsl, ← V.of_bytes h1.1 h1.2, show p.length + 1 + x.bytes.length = p.length + (x.bytes.length + 1) by omega]
  · have he' : encF r f x = [UInt8.ofNat x.number.toNat] := by unfold encF; rw [if_neg (by omega), if_neg (by omega), if_pos kd]
    rw [he'] at hs he ⊢
    unfold fitsB at h1
    rw [if_neg (by omega), if_pos kd] at h1
    unfold rngB at h2
    rw [if_neg (by omega), if_neg (by omega), if_pos kd] at h2
    simp only [Bool.and_eq_true, decide_eq_true_eq] at h1 h2
    have hb : s.getD p.length 0 = UInt8.ofNat x.number.toNat := by rw [hs, List.singleton_append, getD_mid]
    have hw := w4 kd
    have hbn : ((UInt8.ofNat x.number.toNat).toNat : Int) = x.number := by rw [UInt8.toNat_ofNat']; omega
    simp only [List.length_singleton] at he ⊢
    rw [fldP, if_neg (by omega), if_neg (by omega), if_neg (by omega), if_pos kd, if_neg (by omega), hb, hbn, if_neg (by omega)]
    have : V.mk [] x.number [] = x := V.ext' h1.1.symm rfl (List.eq_nil_of_length_eq_zero h1.2).symm
    rw [this]
  · have he' : encF r f x = x.bytes := by unfold encF; rw [if_neg (by omega), if_neg (by omega), if_neg (by omega), if_neg (by omega)]
    have h6 := h6 kd
    rw [he'] at hs he h6 ⊢
    unfold fitsB at h1
    rw [if_neg (by omega), if_neg (by omega), if_neg (by omega)] at h1
    unfold rngB at h2
    rw [if_neg (by omega), if_neg (by omega), if_neg (by omega), if_pos kd] at h2
    simp only [Bool.and_eq_true, decide_eq_true_eq] at h1 h2
    have hn : e - p.length = x.bytes.length := by omega
    rw [fldP, if_neg (by omega), if_neg (by omega), if_neg (by omega), if_neg (by omega), if_neg (by omega), hn, if_neg (by omega), if_neg (by omega), show min x.bytes.length f.high.toNat = x.bytes.length by omega, takeP, if_neg (by omega), hs, slice_mid, ← V.of_bytes h1.1 h1.2]
theorem readL_mid {k : Bool} {rec : Int → Nat → Nat → Pl} {r : Int → V → List UInt8} {t : List Fm} {s : List UInt8} {pre : Bool} : ∀ (fs : List Fd) (vs acc : List V) (p q : List UInt8), vs.length = fs.length → s = p ++ (encL r fs vs ++ q) →
    (∀ j, j < fs.length → ∀ (p q : List UInt8) (e : Nat), s = p ++ (encF r (fs.getD j default) (vs.getD j default) ++ q) → p.length + (encF r (fs.getD j default) (vs.getD j default)).length ≤ e →
      (j + 1 = fs.length → e = p.length + (encF r (fs.getD j default) (vs.getD j default)).length) → fldP k rec t (fs.getD j default) s p.length e pre = ⟨vs.getD j default, p.length + (encF r (fs.getD j default) (vs.getD j default)).length, true⟩) →
    readL k rec t s (p.length + (encL r fs vs).length) pre fs acc p.length = ⟨.mk [] 0 (acc ++ vs), p.length + (encL r fs vs).length, true⟩
  | [], [], acc, p, q, _, _, _ => by rw [readL, List.append_nil]; rfl
  | [], _ :: _, _, _, _, h, _, _ => by simp at h
  | _ :: _, [], _, _, _, h, _, _ => by simp at h
  | f :: fs, v :: vs, acc, p, q, hl, hs, h => by
    have hs' : s = p ++ (encF r f v ++ (encL r fs vs ++ q)) := by rw [hs, encL, List.append_assoc]
    have h0 := h 0 (by simp) p (encL r fs vs ++ q) (p.length + (encL r (f :: fs) (v :: vs)).length) (by simpa using hs') (by simp [encL]) (by
      intro h1
      have : fs = [] := by simpa using h1.symm
      subst this
      have : vs = [] := by simpa using hl
      subst this
      simp [encL])
    simp only [List.getD_cons_zero] at h0
    have hs2 : s = (p ++ encF r f v) ++ (encL r fs vs ++ q) := by rw [hs', List.append_assoc]
    have ih := readL_mid fs vs (acc ++ [v]) (p ++ encF r f v) q (by simpa using hl) hs2 fun j hj p q e a b c => by
      have := h (j + 1) (by simpa using hj) p q e (by simpa using a) (by simpa using b) (by intro hh; simpa using c (by simpa using hh))
      simpa using this
    simp only [List.length_append] at ih
    rw [readL, h0, if_pos rfl]
    simp only [encL, List.length_append]
    rw [← Nat.add_assoc, ih, List.append_assoc]
    rfl
/-- The lengths are within the bounds. -/
theorem encF_bnd {rec' : Int → V → Int} {r : Int → V → List UInt8} {rb : Int → Int × Int} {f : Fd} {x : V} (hf : FdOk f) (hv : fvE rec' f x = 0) (h5 : f.kind = 5 → (rb f.n).1 ≤ (r f.n x).length ∧ ((r f.n x).length : Int) ≤ (rb f.n).2) :
    (bndF rb f).1 ≤ (encF r f x).length ∧ ((encF r f x).length : Int) ≤ (bndF rb f).2 := by
  obtain ⟨h1, h2⟩ := fvE_both hv
  obtain ⟨k1, k2, k3, k4, k5, k6, k7⟩ := hf
  obtain ⟨c1, c2, c3, c4, c5, c6⟩ := bndF_cases rb f
  unfold rngB at h2
  unfold encF
  obtain kd | kd | kd | kd | kd | kd : f.kind = 1 ∨ f.kind = 2 ∨ f.kind = 3 ∨ f.kind = 4 ∨ f.kind = 5 ∨ f.kind = 6 := by omega
  · have := c1 kd; rw [if_pos kd]; omega
  · have := c2 kd; rw [if_pos kd] at h2; simp only [decide_eq_true_eq] at h2; rw [if_neg (by omega), if_neg (by omega), if_neg (by omega), if_neg (by omega)]; omega
  · have := c3 kd; rw [if_neg (by omega), if_pos kd] at h2; simp only [decide_eq_true_eq] at h2; rw [if_neg (by omega), if_pos kd]; simp only [List.length_cons]; omega
  · have := c4 kd; rw [if_neg (by omega), if_neg (by omega), if_pos kd]; simp only [List.length_singleton]; omega
  · have := c5 kd; have := h5 kd; rw [if_neg (by omega), if_neg (by omega), if_neg (by omega), if_pos kd]; simp only [List.length_cons]; omega
  · have := c6 kd; rw [if_neg (by omega), if_neg (by omega), if_neg (by omega), if_pos kd] at h2; simp only [Bool.and_eq_true, decide_eq_true_eq] at h2; rw [if_neg (by omega), if_neg (by omega), if_neg (by omega), if_neg (by omega)]; omega
theorem encL_bnd {r : Int → V → List UInt8} {rb : Int → Int × Int} : ∀ {fs : List Fd} {vs : List V}, vs.length = fs.length → (∀ j, j < fs.length → (bndF rb (fs.getD j default)).1 ≤ (encF r (fs.getD j default) (vs.getD j default)).length ∧ ((encF r (fs.getD j default) (vs.getD j default)).length : Int) ≤ (bndF rb (fs.getD j default)).2) →
    (bndL rb fs).1 ≤ (encL r fs vs).length ∧ ((encL r fs vs).length : Int) ≤ (bndL rb fs).2
  | [], [], _, _ => by simp [bndL, encL]
  | [], _ :: _, h, _ => by simp at h
  | _ :: _, [], h, _ => by simp at h
  | f :: fs, v :: vs, hl, h => by
    have h0 := h 0 (by simp)
    simp only [List.getD_cons_zero] at h0
    have ih := encL_bnd (r := r) (rb := rb) (fs := fs) (vs := vs) (by simpa using hl) fun j hj => by have := h (j + 1) (by simpa using hj); simpa using this
    simp only [bndL, encL, List.length_append]
    omega
theorem enc0_bnd {t : List Fm} {i : Int} {v : V} (hp : Plain1 (t.getD i.toNat default).fields) (h : val0 t i v = 0) : (bnd0 t i).1 ≤ (enc0 t i v).length ∧ ((enc0 t i v).length : Int) ≤ (bnd0 t i).2 :=
  encL_bnd (valG_ok h).2.2.1 fun j hj => encF_bnd (hp.ok j hj).1 ((valG_ok h).2.2.2 j hj) fun h5 => absurd h5 (hp.ok j hj).2.1
theorem encT_bnd {t : List Fm} {i : Int} {v : V} (hf : Fds t (t.getD i.toNat default).fields) (h : valT t i v = 0) : (bndT t i).1 ≤ (encT t i v).length ∧ ((encT t i v).length : Int) ≤ (bndT t i).2 :=
  encL_bnd (valG_ok h).2.2.1 fun j hj => encF_bnd (hf.ok j hj) ((valG_ok h).2.2.2 j hj) fun h5 => enc0_bnd (hf.nest j hj h5).2 (fvE_five h5 ((valG_ok h).2.2.2 j hj))
theorem V.of_kids {v : V} (h1 : v.bytes = []) (h2 : v.number = 0) : V.mk [] 0 v.kids = v := V.ext' h1.symm h2.symm rfl
theorem read0_mid {t : List Fm} {i : Int} {v : V} {s p q : List UInt8} (hp : Plain1 (t.getD i.toNat default).fields) (h : val0 t i v = 0) (hs : s = p ++ (enc0 t i v ++ q)) :
    read0 false t s i p.length (p.length + (enc0 t i v).length) = ⟨v, p.length + (enc0 t i v).length, true⟩ := by
  have hk := valG_ok h
  have := readL_mid (k := false) (rec := fun _ _ _ => failP 0) (r := fun _ _ => []) (t := t) (s := s) (pre := false) (t.getD i.toNat default).fields v.kids [] p q hk.2.2.1 hs fun j hj p q e a b c =>
    fld_mid (hp.ok j hj).1 (hk.2.2.2 j hj) (hp.ok j hj).2.1 a b fun h6 => absurd h6 (hp.ok j hj).2.2
  rw [List.nil_append, V.of_kids hk.1 hk.2.1] at this
  exact this
/-- A nested format is valid by itself. -/
theorem errE_nest {t : List Fm} {i : Int} (he : errE t i = 0) {k : Nat} (hk : k < (t.getD i.toNat default).fields.length) (h5 : ((t.getD i.toNat default).fields.getD k default).kind = 5) :
    errE t ((t.getD i.toNat default).fields.getD k default).n = 0 := by
  obtain ⟨hi, h⟩ := errE_fds he
  obtain ⟨q1, q2⟩ := h.nest k hk h5
  have q3 := (h.ok k hk).n
  have hv : validE t = 0 := by
    unfold errE at he
    split at he
    · rename_i hh; exact absurd he hh
    · rename_i hh; exact Decidable.not_not.1 hh
  unfold errE
  rw [if_neg (by omega), if_neg (by omega)]
theorem rest_last {t : List Fm} {i : Int} (he : errE t i = 0) (k : Nat) (hk : k < (t.getD i.toNat default).fields.length) (h6 : ((t.getD i.toNat default).fields.getD k default).kind = 6) : k + 1 = (t.getD i.toNat default).fields.length := by
  obtain ⟨h1, h2, h3⟩ := errE_zero he
  have := h1.fd i.toNat (by omega) k hk
  have := (fieldE_rng this).2.1
  unfold rangeB at this
  rw [if_neg (by omega), if_neg (by omega), if_neg (by omega), if_neg (by omega), if_pos h6] at this
  simp only [Bool.and_eq_true, decide_eq_true_eq] at this
  exact this.1.1.1
theorem nest_mid {t : List Fm} {n : Int} {v : V} {s p q : List UInt8} {e : Nat} (he : errE t n = 0) (hp : Plain1 (t.getD n.toNat default).fields) (h : val0 t n v = 0) (hs : s = p ++ (UInt8.ofNat (enc0 t n v).length :: enc0 t n v ++ q)) (hle : p.length + ((enc0 t n v).length + 1) ≤ e) :
    nestP false (read0 false t s) t n s p.length e = ⟨v, p.length + ((enc0 t n v).length + 1), true⟩ := by
  have hb : s.getD p.length 0 = UInt8.ofNat (enc0 t n v).length := by rw [hs, List.cons_append, getD_mid]
  have hl := enc0_len hp h
  have hbn : (UInt8.ofNat (enc0 t n v).length).toNat = (enc0 t n v).length := by rw [UInt8.toNat_ofNat']; omega
  have hs2 : s = (p ++ [UInt8.ofNat (enc0 t n v).length]) ++ (enc0 t n v ++ q) := by rw [hs]; simp
  have hr := read0_mid hp h hs2
  simp only [List.length_append, List.length_singleton] at hr
  have hbd := enc0_bnd hp h
  obtain ⟨z1, z2⟩ := boundsE_zero he
  rw [bnd_nest hp] at z1 z2
  rw [nestP, if_neg (by omega), hb, hbn, if_neg (by omega), if_neg (by omega), hr, if_neg (by simp)]
  rw [show p.length + 1 + (enc0 t n v).length = p.length + ((enc0 t n v).length + 1) by omega]
/-- Decoding leads back. -/
theorem dec_enc {t : List Fm} {i : Int} {v : V} (h : valE t i v = 0) : decE t i (encT t i v) = (v, 0, 0) := by
  have he : errE t i = 0 := by
    unfold valE at h
    split at h
    · rename_i h1; exact absurd h h1
    · rename_i h1; exact Decidable.not_not.1 h1
  obtain ⟨⟨hi, hf⟩, hv⟩ := valE_zero h
  have hk := valG_ok hv
  have key := readL_mid (k := false) (rec := read0 false t (encT t i v)) (r := enc0 t) (t := t) (s := encT t i v) (pre := false) (t.getD i.toNat default).fields v.kids [] [] [] hk.2.2.1 (by rw [List.nil_append, List.append_nil]; rfl) fun j hj p q e a b c => by
    by_cases h5 : ((t.getD i.toNat default).fields.getD j default).kind = 5
    · have he5 : encF (enc0 t) ((t.getD i.toNat default).fields.getD j default) (v.kids.getD j default) = UInt8.ofNat (enc0 t ((t.getD i.toNat default).fields.getD j default).n (v.kids.getD j default)).length :: enc0 t ((t.getD i.toNat default).fields.getD j default).n (v.kids.getD j default) := by
        unfold encF; rw [if_neg (by omega), if_neg (by omega), if_neg (by omega), if_pos h5]
      rw [he5] at a b ⊢
      simp only [List.length_cons] at b ⊢
      have := nest_mid (errE_nest he hj h5) (hf.nest j hj h5).2 (fvE_five h5 (hk.2.2.2 j hj)) a b
      rw [fldP, if_neg (by omega), if_neg (by omega), if_neg (by omega), if_neg (by omega), if_pos h5]
      exact this
    · exact fld_mid (hf.ok j hj) (hk.2.2.2 j hj) h5 a b fun h6 => c (rest_last he j hj h6)
  rw [List.nil_append, V.of_kids hk.1 hk.2.1] at key
  simp only [List.length_nil, Nat.zero_add] at key
  have hr : readT false t (encT t i v) false i 0 (encT t i v).length = ⟨v, (encT t i v).length, true⟩ := key
  rw [decE, if_neg (by omega), hr, if_neg (by simp)]
end Go.Proofs.Ytgjclggjkhapfaa
/- Laws of the codec (plain): what is decoded is valid, and its string is what was read. -/
set_option linter.unusedVariables false
set_option linter.unusedSimpArgs false
namespace Go.Proofs.Ytgjclggjkhapfaa
open Go Go.Abs
abbrev sub (s : List UInt8) (a b : Nat) : List UInt8 := (s.take b).drop a
theorem sub_split {s : List UInt8} {a b c : Nat} (h1 : a ≤ b) (h2 : b ≤ c) : sub s a c = sub s a b ++ sub s b c := by
  unfold sub
  have h : s.take c = s.take b ++ (s.take c).drop b := by
    have := List.take_append_drop b (s.take c)
    rw [List.take_take, Nat.min_eq_left h2] at this
    exact this.symm
  by_cases hb : b ≤ s.length
  · have hl : (s.take b).length = b := by simp; omega
    conv => lhs; rw [h]
    rw [List.drop_append_of_le_length (by omega)]
  · have e1 : s.take c = s := List.take_of_length_le (by omega)
    have e2 : s.take b = s := List.take_of_length_le (by omega)
    rw [e1, e2, List.drop_of_length_le (l := s) (i := b) (by omega), List.append_nil]
theorem sub_len {s : List UInt8} {a b : Nat} (h : b ≤ s.length) : (sub s a b).length = b - a := by
  unfold sub; simp; omega
theorem sub_nil (s : List UInt8) (a : Nat) : sub s a a = [] := by
  unfold sub; apply List.drop_of_length_le; simp; omega
theorem sub_cons {s : List UInt8} {a b : Nat} (h1 : a < b) (h2 : b ≤ s.length) : sub s a b = s.getD a 0 :: sub s (a + 1) b := by
  unfold sub
  rw [drop_get0 (by simp; omega), getD_take _ _ (by omega)]
theorem take_dec {s : List UInt8} {a n e : Nat} (h : (takeP s a n e).ok = true) : (takeP s a n e).p = a + n ∧ a + n ≤ e ∧ (takeP s a n e).v = bv (sub s a (a + n)) := by
  unfold takeP at h ⊢
  split
  · rename_i h1; rw [if_pos h1] at h; simp at h
  · exact ⟨rfl, by omega, rfl⟩
theorem tag_dec {s : List UInt8} {e : Nat} (he : e ≤ s.length) : ∀ {l : List UInt8} {a : Nat}, a ≤ e → (tagP s e l a).ok = true → (tagP s e l a).p = a + l.length ∧ a + l.length ≤ e ∧ (tagP s e l a).v = v0 ∧ sub s a (a + l.length) = l
  | [], a, ha, _ => ⟨rfl, ha, rfl, sub_nil s a⟩
  | c :: l, a, ha, h => by
    rw [tagP] at h ⊢
    split
    · rename_i h1; rw [if_pos h1] at h; simp at h
    · rename_i h1
      rw [if_neg h1] at h
      have h2 : ¬ e ≤ a := fun q => h1 (.inl q)
      have h3 : s.getD a 0 = c := Decidable.not_not.1 fun q => h1 (.inr q)
      obtain ⟨q1, q2, q3, q4⟩ := tag_dec he (l := l) (a := a + 1) (by omega) h
      simp only [List.length_cons]
      rw [show a + (l.length + 1) = a + 1 + l.length by omega]
      exact ⟨q1, q2, q3, by rw [sub_cons (by omega) (by omega), h3, q4]⟩
theorem fld_dec {k : Bool} {rec : Int → Nat → Nat → Pl} {rec' : Int → V → Int} {r : Int → V → List UInt8} {t : List Fm} {f : Fd} {s : List UInt8} {a e : Nat} {pre : Bool} (hf : FdOk f) (h5 : f.kind ≠ 5) (ha : a ≤ e) (he : e ≤ s.length)
    (h : (fldP k rec t f s a e pre).ok = true) : fvE rec' f (fldP k rec t f s a e pre).v = 0 ∧ encF r f (fldP k rec t f s a e pre).v = sub s a (fldP k rec t f s a e pre).p := by
  obtain ⟨k1, k2, k3, k4, k5, k6, k7⟩ := hf
  have hu := u8_lt (s.getD a 0)
  have key : ∀ v : V, fitsB f v = true → rngB f v = true → fvE rec' f v = 0 := by
    intro v h1 h2
    rw [fvE, h1, h2, if_neg (by simp), if_neg (by simp), if_neg h5]
  unfold fldP at h ⊢
  obtain kd | kd | kd | kd | kd : f.kind = 1 ∨ f.kind = 2 ∨ f.kind = 3 ∨ f.kind = 4 ∨ f.kind = 6 := by omega
  · rw [if_pos kd] at h ⊢
    obtain ⟨q1, q2, q3, q4⟩ := tag_dec he ha h
    refine ⟨key _ ?_ ?_, ?_⟩
    · rw [q3]; simp [fitsB, kd, zeroB, v0, V.bytes, V.number, V.kids]
    · simp [rngB, kd]
    · rw [encF, if_pos kd, q1, q4]
  · rw [if_neg (by omega), if_pos kd] at h ⊢
    obtain ⟨q1, q2, q3⟩ := take_dec h
    have hl := sub_len (s := s) (a := a) (b := a + f.n.toNat) (by omega)
    refine ⟨key _ ?_ ?_, ?_⟩
    · rw [q3]; simp [fitsB, kd, V.number, V.kids]
    · rw [q3]; unfold rngB; rw [if_pos kd]; simp only [V.bytes, decide_eq_true_eq, hl]; omega
    · rw [q3, q1]; unfold encF; rw [if_neg (by omega), if_neg (by omega), if_neg (by omega), if_neg (by omega)]; rfl
  · rw [if_neg (by omega), if_neg (by omega), if_pos kd] at h ⊢
    by_cases c1 : e ≤ a
    · rw [if_pos c1] at h; simp at h
    rw [if_neg c1] at h ⊢
    by_cases c2 : f.n < (s.getD a 0).toNat
    · rw [if_pos c2] at h; simp at h
    rw [if_neg c2] at h ⊢
    obtain ⟨q1, q2, q3⟩ := take_dec h
    have hl := sub_len (s := s) (a := a + 1) (b := a + 1 + (s.getD a 0).toNat) (by omega)
    refine ⟨key _ ?_ ?_, ?_⟩
    · rw [q3]; simp [fitsB, kd, V.number, V.kids]
    · rw [q3]; unfold rngB; rw [if_neg (by omega), if_pos kd]; simp only [V.bytes, decide_eq_true_eq, hl]; omega
    · rw [q3, q1]; unfold encF; rw [if_neg (by omega), if_pos kd]
      simp only [V.bytes, hl]
      rw [show a + 1 + (s.getD a 0).toNat - (a + 1) = (s.getD a 0).toNat by omega, UInt8.ofNat_toNat, sub_cons (a := a) (by omega) (by omega)]
  · rw [if_neg (by omega), if_neg (by omega), if_neg (by omega), if_pos kd] at h ⊢
    by_cases c1 : e ≤ a
    · rw [if_pos c1] at h; simp at h
    rw [if_neg c1] at h ⊢
    by_cases c2 : ((s.getD a 0).toNat : Int) < f.low ∨ f.high < (s.getD a 0).toNat
    · rw [if_pos c2] at h; simp at h
    rw [if_neg c2] at h ⊢
    refine ⟨key _ ?_ ?_, ?_⟩
    · simp [fitsB, kd, V.bytes, V.kids]
    · unfold rngB; rw [if_neg (by omega), if_neg (by omega), if_pos kd]
      show (decide (f.low ≤ ((s.getD a 0).toNat : Int)) && decide (((s.getD a 0).toNat : Int) ≤ f.high)) = true
      simp only [Bool.and_eq_true, decide_eq_true_eq]; omega
    · unfold encF; rw [if_neg (by omega), if_neg (by omega), if_pos kd]
      simp only [V.number, Int.toNat_natCast, UInt8.ofNat_toNat]
      rw [sub_cons (by omega) (by omega), sub_nil]
  · rw [if_neg (by omega), if_neg (by omega), if_neg (by omega), if_neg (by omega), if_neg (by omega)] at h ⊢
    by_cases c1 : ((e - a : Nat) : Int) < f.low
    · rw [if_pos c1] at h; simp at h
    rw [if_neg c1] at h ⊢
    by_cases c2 : f.high < ((e - a : Nat) : Int) ∧ pre = false
    · rw [if_pos c2] at h; simp at h
    rw [if_neg c2] at h ⊢
    obtain ⟨q1, q2, q3⟩ := take_dec h
    have hl := sub_len (s := s) (a := a) (b := a + min (e - a) f.high.toNat) (by omega)
    refine ⟨key _ ?_ ?_, ?_⟩
    · rw [q3]; simp [fitsB, kd, V.number, V.kids]
    · rw [q3]; unfold rngB; rw [if_neg (by omega), if_neg (by omega), if_neg (by omega), if_pos kd]; simp only [V.bytes, Bool.and_eq_true, decide_eq_true_eq, hl]; omega
    · rw [q3, q1]; unfold encF; rw [if_neg (by omega), if_neg (by omega), if_neg (by omega), if_neg (by omega)]; rfl
theorem readL_dec {k : Bool} {rec : Int → Nat → Nat → Pl} {rec' : Int → V → Int} {r : Int → V → List UInt8} {t : List Fm} {s : List UInt8} {e : Nat} {pre : Bool} (he : e ≤ s.length) : ∀ (fs : List Fd) (acc : List V) (a : Nat), a ≤ e →
    (∀ j, j < fs.length → ∀ a : Nat, a ≤ e → (fldP k rec t (fs.getD j default) s a e pre).ok = true → (a ≤ (fldP k rec t (fs.getD j default) s a e pre).p ∧ (fldP k rec t (fs.getD j default) s a e pre).p ≤ e) ∧
      fvE rec' (fs.getD j default) (fldP k rec t (fs.getD j default) s a e pre).v = 0 ∧ encF r (fs.getD j default) (fldP k rec t (fs.getD j default) s a e pre).v = sub s a (fldP k rec t (fs.getD j default) s a e pre).p) →
    (readL k rec t s e pre fs acc a).ok = true → ∃ vs : List V, vs.length = fs.length ∧ (readL k rec t s e pre fs acc a).v = .mk [] 0 (acc ++ vs) ∧ kidsE rec' fs vs = 0 ∧ encL r fs vs = sub s a (readL k rec t s e pre fs acc a).p ∧
      a ≤ (readL k rec t s e pre fs acc a).p ∧ (readL k rec t s e pre fs acc a).p ≤ e
  | [], acc, a, ha, _, h => by
    refine ⟨[], rfl, by rw [readL, List.append_nil], rfl, ?_, ?_⟩
    · rw [readL, encL, sub_nil]
      intro f fs v vs e1; simp at e1
    · rw [readL]; exact ⟨Nat.le_refl _, ha⟩
  | f :: fs, acc, a, ha, hf, h => by
    rw [readL] at h ⊢
    by_cases c : (fldP k rec t f s a e pre).ok = true
    · rw [if_pos c] at h ⊢
      have h0 := hf 0 (by simp) a ha (by simpa using c)
      simp only [List.getD_cons_zero] at h0
      obtain ⟨⟨b1, b2⟩, b3, b4⟩ := h0
      obtain ⟨vs, e1, e2, e3, e4, e5, e6⟩ := readL_dec he fs (acc ++ [(fldP k rec t f s a e pre).v]) (fldP k rec t f s a e pre).p b2 (fun j hj a ha hk => by
        have := hf (j + 1) (by simpa using hj) a ha (by simpa using hk)
        simpa using this) h
      refine ⟨(fldP k rec t f s a e pre).v :: vs, by simp [e1], ?_, ?_, ?_, by omega, e6⟩
      · rw [e2, List.append_assoc]; rfl
      · rw [kidsE, b3, if_neg (by simp)]; exact e3
      · rw [encL, b4, e4, ← sub_split b1 e5]
    · rw [if_neg c] at h; simp at h
theorem read0_dec {t : List Fm} {s : List UInt8} {i : Int} {a e : Nat} (hp : Plain1 (t.getD i.toNat default).fields) (ha : a ≤ e) (he : e ≤ s.length) (h : (read0 false t s i a e).ok = true) :
    val0 t i (read0 false t s i a e).v = 0 ∧ enc0 t i (read0 false t s i a e).v = sub s a (read0 false t s i a e).p ∧ (a ≤ (read0 false t s i a e).p ∧ (read0 false t s i a e).p ≤ e) := by
  obtain ⟨vs, e1, e2, e3, e4, e5, e6⟩ := readL_dec (k := false) (rec := fun _ _ _ => failP 0) (rec' := fun _ _ => 0) (r := fun _ _ => []) (t := t) (pre := false) he (t.getD i.toNat default).fields [] a ha
    (fun j hj a ha hk => ⟨fldP_le ha fun h5 => absurd h5 (hp.ok j hj).2.1, fld_dec (hp.ok j hj).1 (hp.ok j hj).2.1 ha he hk⟩) h
  have hv : (read0 false t s i a e).v = .mk [] 0 vs := by rw [read0, e2, List.nil_append]
  rw [hv]
  refine ⟨?_, ?_, e5, e6⟩
  · unfold val0 valG
    rw [if_neg (by simp [V.bytes, V.number]), if_neg (by simpa [V.kids] using e1)]
    exact e3
  · exact e4
theorem nest_dec {t : List Fm} {s : List UInt8} {n : Int} {a e : Nat} (hp : Plain1 (t.getD n.toNat default).fields) (ha : a ≤ e) (he : e ≤ s.length) (h : (nestP false (read0 false t s) t n s a e).ok = true) :
    val0 t n (nestP false (read0 false t s) t n s a e).v = 0 ∧ UInt8.ofNat (enc0 t n (nestP false (read0 false t s) t n s a e).v).length :: enc0 t n (nestP false (read0 false t s) t n s a e).v = sub s a (nestP false (read0 false t s) t n s a e).p ∧
      (a ≤ (nestP false (read0 false t s) t n s a e).p ∧ (nestP false (read0 false t s) t n s a e).p ≤ e) := by
  unfold nestP at h ⊢
  by_cases c1 : e ≤ a
  · rw [if_pos c1] at h; simp at h
  rw [if_neg c1] at h ⊢
  by_cases c2 : ((s.getD a 0).toNat : Int) < (boundsE t n).1 ∨ (boundsE t n).2.1 < (s.getD a 0).toNat
  · rw [if_pos c2] at h; simp at h
  rw [if_neg c2] at h ⊢
  by_cases c3 : e < a + 1 + (s.getD a 0).toNat
  · rw [if_pos c3] at h; simp at h
  rw [if_neg c3] at h ⊢
  by_cases c4 : (read0 false t s n (a + 1) (a + 1 + (s.getD a 0).toNat)).ok = true ∧ (read0 false t s n (a + 1) (a + 1 + (s.getD a 0).toNat)).p < a + 1 + (s.getD a 0).toNat
  · rw [if_pos c4] at h; simp at h
  rw [if_neg c4] at h ⊢
  obtain ⟨e1, e2, e3, e4⟩ := read0_dec hp (by omega) (by omega) h
  have hpe : (read0 false t s n (a + 1) (a + 1 + (s.getD a 0).toNat)).p = a + 1 + (s.getD a 0).toNat := by
    have : ¬ (read0 false t s n (a + 1) (a + 1 + (s.getD a 0).toNat)).p < a + 1 + (s.getD a 0).toNat := fun q => c4 ⟨h, q⟩
    omega
  refine ⟨e1, ?_, by omega, by omega⟩
  rw [e2, sub_len (by omega), hpe, show a + 1 + (s.getD a 0).toNat - (a + 1) = (s.getD a 0).toNat by omega, UInt8.ofNat_toNat, ← sub_cons (by omega) (by omega)]
theorem readT_dec {t : List Fm} {s : List UInt8} {i : Int} {pre : Bool} {a e : Nat} (hf : Fds t (t.getD i.toNat default).fields) (ha : a ≤ e) (he : e ≤ s.length) (h : (readT false t s pre i a e).ok = true) :
    valT t i (readT false t s pre i a e).v = 0 ∧ encT t i (readT false t s pre i a e).v = sub s a (readT false t s pre i a e).p ∧ (a ≤ (readT false t s pre i a e).p ∧ (readT false t s pre i a e).p ≤ e) := by
  obtain ⟨vs, e1, e2, e3, e4, e5, e6⟩ := readL_dec (k := false) (rec := read0 false t s) (rec' := val0 t) (r := enc0 t) (t := t) (pre := pre) he (t.getD i.toNat default).fields [] a ha
    (fun j hj a ha hk => by
      by_cases h5 : ((t.getD i.toNat default).fields.getD j default).kind = 5
      · have hpl := (hf.nest j hj h5).2
        have hfe : fldP false (read0 false t s) t ((t.getD i.toNat default).fields.getD j default) s a e pre = nestP false (read0 false t s) t ((t.getD i.toNat default).fields.getD j default).n s a e := by
          rw [fldP, if_neg (by omega), if_neg (by omega), if_neg (by omega), if_neg (by omega), if_pos h5]
        rw [hfe] at hk ⊢
        obtain ⟨d1, d2, d3⟩ := nest_dec hpl ha he hk
        refine ⟨d3, ?_, ?_⟩
        · have g1 : ∀ v, fitsB ((t.getD i.toNat default).fields.getD j default) v = true := fun v => by simp only [fitsB, h5]; rfl
          have g2 : ∀ v, rngB ((t.getD i.toNat default).fields.getD j default) v = true := fun v => by simp only [rngB, h5]; rfl
          rw [fvE, g1, g2, if_neg (by simp), if_neg (by simp), if_pos h5]; exact d1
        · unfold encF; rw [if_neg (by omega), if_neg (by omega), if_neg (by omega), if_pos h5]; exact d2
      · exact ⟨fldP_le ha fun q => absurd q h5, fld_dec (hf.ok j hj) h5 ha he hk⟩) h
  have hv : (readT false t s pre i a e).v = .mk [] 0 vs := by rw [readT, e2, List.nil_append]
  rw [hv]
  refine ⟨?_, ?_, e5, e6⟩
  · unfold valT valG
    rw [if_neg (by simp [V.bytes, V.number]), if_neg (by simpa [V.kids] using e1)]
    exact e3
  · exact e4
theorem sub_all (s : List UInt8) : sub s 0 s.length = s := by simp [sub]
/-- What is decoded. -/
theorem enc_dec {t : List Fm} {i : Int} {s : List UInt8} (h : (decE t i s).2.2 = 0) : encE t i (decE t i s).1 = (s, 0) ∧ (decE t i s).2.1 = 0 := by
  by_cases he : errE t i = 0
  · obtain ⟨hi, hf⟩ := errE_fds he
    rw [decE, if_neg (by omega)] at h ⊢
    split at h
    · simp at h
    · rename_i c
      rw [if_neg c]
      have hok : (readT false t s false i 0 s.length).ok = true := by
        cases hh : (readT false t s false i 0 s.length).ok with
        | true => rfl
        | false => exact absurd (.inl hh) c
      obtain ⟨d1, d2, d3, d4⟩ := readT_dec hf (Nat.zero_le _) (Nat.le_refl _) hok
      have hp : (readT false t s false i 0 s.length).p = s.length := by
        have : ¬ (readT false t s false i 0 s.length).p < s.length := fun q => c (.inr q)
        omega
      have hv : valE t i (readT false t s false i 0 s.length).v = 0 := by rw [valE, if_neg (by omega)]; exact d1
      refine ⟨?_, rfl⟩
      show encE t i (readT false t s false i 0 s.length).v = (s, 0)
      rw [encE, if_neg (by omega), d2, hp, sub_all]
  · rw [decE, if_pos he] at h
    exact absurd h he
/-- A prefix that is read belongs to the format. -/
theorem pre_dec {t : List Fm} {i : Int} {s : List UInt8} (h : (preE t i s).2.2 = 0) : ∃ n : Nat, (preE t i s).2.1 = n ∧ n ≤ s.length ∧ (decE t i (s.take n)).2.2 = 0 := by
  by_cases he : errE t i = 0
  · obtain ⟨hi, hf⟩ := errE_fds he
    rw [preE, if_neg (by omega)] at h ⊢
    split at h
    · simp at h
    · rename_i c
      rw [if_neg c]
      have hok : (readT false t s true i 0 s.length).ok = true := by
        cases hh : (readT false t s true i 0 s.length).ok with
        | true => rfl
        | false => exact absurd hh c
      obtain ⟨d1, d2, d3, d4⟩ := readT_dec hf (Nat.zero_le _) (Nat.le_refl _) hok
      refine ⟨_, rfl, d4, ?_⟩
      have hv : valE t i (readT false t s true i 0 s.length).v = 0 := by rw [valE, if_neg (by omega)]; exact d1
      have := dec_enc hv
      rw [d2] at this
      simp only [sub, List.drop_zero] at this
      rw [this]
  · rw [preE, if_pos he] at h
    exact absurd h he
end Go.Proofs.Ytgjclggjkhapfaa
/- Contracts: the laws CodecDecode and CodecPrefix. -/
set_option linter.unusedVariables false
set_option linter.unusedSimpArgs false
namespace Go.Proofs.Ytgjclggjkhapfaa
open Go Go.Abs
theorem few1_300 {t : List Fm} {s : List UInt8} (h : few1 t s = true) : s.length ≤ 300 := by
  unfold few1 at h
  simp only [Bool.and_eq_true, decide_eq_true_eq] at h
  exact h.2
theorem CodecDecode_spec (t : List Fm) (i : Int) (s : List UInt8) : Ctr sys 4 [xtab t, xi i, xs s] [] (xb true) none [] := by
  refine spec_intro Try.func4 rfl rfl rfl rfl rfl rfl ?_
  refine awp_seq (awp_region ?_)
  refine al_pure rfl rfl rfl (pure_assign rfl gU) ?_
  refine al_nil ?_
  refine awp_seq ?_
  refine awp_seq (awp_region ?_)
  refine al_call rfl rfl rfl rfl rfl rfl gU gU (awake_spec) rfl ?_
  refine al_pure rfl rfl rfl (pure_not rfl gU) ?_
  refine al_pure rfl rfl rfl (pure_move rfl gU) ?_
  refine al_pure rfl rfl rfl (pure_move rfl gU) ?_
  refine al_pure rfl rfl rfl (pure_move rfl gU) ?_
  refine al_call rfl rfl rfl rfl rfl rfl gU (fun hh => gA ((fun hh => hh) hh) (gA ((fun hh => hh) hh) (rfl))) (few_spec _ _) rfl ?_
  refine al_pure rfl rfl rfl (pure_not rfl (fun hh => hh)) ?_
  refine al_pure rfl rfl rfl (pure_or rfl rfl gU (fun _ hi => gP rfl hi)) ?_
  refine al_nil ?_
  refine awp_sub (s := { t := [(0, _, _), (1, _, _), (2, _, _), (22, _, _)], bx := [], ow := [] }) (sub_mk (⟨sx rfl, ⟨sx rfl, ⟨sx rfl, ⟨sx rfl, trivial⟩⟩⟩⟩) trivial trivial) ?_
  refine awp_cond rfl (fun hc => ?_) (fun hc => ?_)
  · refine awp_seq (awp_region ?_)
    refine al_call rfl rfl rfl rfl rfl rfl gU gU (awake_spec) rfl ?_
    refine al_pure rfl rfl rfl (pure_assign rfl gU) ?_
    refine al_nil ?_
    refine awp_ret ?_
    repeat (first | refine tR ?_ | refine bR ?_)
    refine ret_ok rfl ?_ trivial
    rfl
  · try simp only [nn, Fd.rows_len, Fm.rows_len, V.rows_len, intR_len] at hc
    have hs := few1_300 (t := t) (s := s) (by simpa using hc)
    refine awp_skip ?_
    refine awp_seq (awp_region ?_)
    refine al_pure rfl rfl rfl (pure_move rfl gU) ?_
    refine al_pure rfl rfl rfl (pure_move rfl gU) ?_
    refine al_pure rfl rfl rfl (pure_move rfl gU) ?_
    refine al_call rfl rfl rfl rfl rfl rfl gU gU (cDecode_spec _ _ _ (by omega)) rfl ?_
    refine al_pure rfl rfl rfl (pure_move rfl gU) ?_
    refine al_pure rfl rfl rfl (pure_extract rfl gU rfl) ?_
    refine al_pure rfl rfl rfl (pure_extract rfl gU rfl) ?_
    refine al_pure rfl rfl rfl (pure_extract rfl gU rfl) ?_
    refine al_do rfl (does_alloc rfl rfl rfl) ?_
    refine al_do rfl (does_store rfl rfl rfl rfl rfl rfl rfl) ?_
    refine al_pure rfl rfl rfl (pure_assign rfl gU) ?_
    refine al_pure rfl rfl rfl (pure_assign rfl gU) ?_
    refine al_nil ?_
    refine awp_sub (s := { t := [(0, _, _), (1, _, _), (2, _, _), (7, _, _), (8, _, _), (9, _, _)], bx := [((.l 7), _)], ow := [] }) (sub_mk (⟨sx rfl, ⟨sx rfl, ⟨sx rfl, ⟨sx rfl, ⟨sx rfl, ⟨sx rfl, trivial⟩⟩⟩⟩⟩⟩) (⟨sx rfl, trivial⟩) trivial) ?_
    refine awp_seq (awp_region ?_)
    refine al_pure rfl rfl rfl (pure_move rfl gU) ?_
    refine al_pure rfl rfl rfl (pure_move rfl gU) ?_
    refine al_pure rfl rfl rfl (pure_move rfl gU) ?_
    refine al_call rfl rfl rfl rfl rfl rfl gU gU (rDecode_spec _ _ _ (by omega)) rfl ?_
    refine al_pure rfl rfl rfl (pure_move rfl gU) ?_
    refine al_pure rfl rfl rfl (pure_extract rfl gU rfl) ?_
    refine al_pure rfl rfl rfl (pure_extract rfl gU rfl) ?_
    refine al_pure rfl rfl rfl (pure_extract rfl gU rfl) ?_
    refine al_do rfl (does_alloc rfl rfl rfl) ?_
    refine al_do rfl (does_store rfl rfl rfl rfl rfl rfl rfl) ?_
    refine al_pure rfl rfl rfl (pure_assign rfl gU) ?_
    refine al_pure rfl rfl rfl (pure_assign rfl gU) ?_
    refine al_nil ?_
    refine awp_sub (s := { t := [(0, _, _), (1, _, _), (2, _, _), (7, _, _), (8, _, _), (9, _, _), (10, _, _), (11, _, _), (12, _, _)], bx := [((.l 10), _), ((.l 7), _)], ow := [] }) (sub_mk (⟨sx rfl, ⟨sx rfl, ⟨sx rfl, ⟨sx rfl, ⟨sx rfl, ⟨sx rfl, ⟨sx rfl, ⟨sx rfl, ⟨sx rfl, trivial⟩⟩⟩⟩⟩⟩⟩⟩⟩) (⟨sx rfl, ⟨sx rfl, trivial⟩⟩) trivial) ?_
    refine awp_seq ?_
    refine awp_seq (awp_region ?_)
    refine al_pure rfl rfl rfl (pure_move rfl gU) ?_
    refine al_pure rfl rfl rfl (pure_move rfl gU) ?_
    refine al_pure rfl rfl rfl (pure_cmp rfl rfl gU gU rfl) ?_
    refine al_pure rfl rfl rfl (pure_move rfl gU) ?_
    refine al_pure rfl rfl rfl (pure_move rfl gU) ?_
    refine al_pure rfl rfl rfl (pure_move rfl gU) ?_
    refine al_pure rfl rfl rfl (pure_cmp rfl rfl (fun hh => hh) (fun hh => hh) rfl) ?_
    refine al_pure rfl rfl rfl (pure_or rfl rfl gU (fun _ hi => gP rfl hi)) ?_
    refine al_pure rfl rfl rfl (pure_move rfl gU) ?_
    refine al_pure rfl rfl rfl (pure_loadBoxRow rfl gU rfl rfl rfl rfl rfl) ?_
    refine al_pure rfl rfl rfl (pure_loadBoxRow rfl gU rfl rfl rfl rfl rfl) ?_
    refine al_call rfl rfl rfl rfl rfl rfl gU (fun hh => gA ((fun hh => hh) hh) (gA ((fun hh => hh) hh) (rfl))) (Same_spec _ _ _ (Nat.le_refl _)) rfl ?_
    refine al_sub (s := { t := [(0, _, _), (1, _, _), (2, _, _), (7, _, _), (8, _, _), (9, _, _), (10, _, _), (11, _, _), (12, _, _), (48, _, _), (51, _, _)], bx := [((.l 10), _), ((.l 7), _)], ow := [] }) (sub_mk (⟨sx rfl, ⟨sx rfl, ⟨sx rfl, ⟨sx rfl, ⟨sx rfl, ⟨sx rfl, ⟨sx rfl, ⟨sx rfl, ⟨sx rfl, ⟨sx rfl, ⟨sx rfl, trivial⟩⟩⟩⟩⟩⟩⟩⟩⟩⟩⟩) (⟨sx rfl, ⟨sx rfl, trivial⟩⟩) trivial) ?_
    refine al_pure rfl rfl rfl (pure_not rfl (fun hh => hh)) ?_
    refine al_pure rfl rfl rfl (pure_or rfl rfl gU (fun _ hi => gP rfl hi)) ?_
    refine al_pure rfl rfl rfl (pure_move rfl gU) ?_
    refine al_pure rfl rfl rfl (pure_move rfl gU) ?_
    refine al_pure rfl rfl rfl (pure_cmp rfl rfl (fun hh => hh) gU rfl) ?_
    refine al_pure rfl rfl rfl (pure_or rfl rfl gU (fun _ hi => gP rfl hi)) ?_
    refine al_nil ?_
    refine awp_sub (s := { t := [(0, _, _), (1, _, _), (2, _, _), (7, _, _), (8, _, _), (9, _, _), (10, _, _), (11, _, _), (12, _, _), (57, _, _)], bx := [((.l 10), _), ((.l 7), _)], ow := [] }) (sub_mk (⟨sx rfl, ⟨sx rfl, ⟨sx rfl, ⟨sx rfl, ⟨sx rfl, ⟨sx rfl, ⟨sx rfl, ⟨sx rfl, ⟨sx rfl, ⟨sx rfl, trivial⟩⟩⟩⟩⟩⟩⟩⟩⟩⟩) (⟨sx rfl, ⟨sx rfl, trivial⟩⟩) trivial) ?_
    refine awp_cond rfl (fun hc2 => ?_) (fun hc2 => ?_)
    · refine awp_seq (awp_region ?_)
      refine al_pure rfl rfl rfl (pure_move rfl gU) ?_
      refine al_pure rfl rfl rfl (pure_move rfl gU) ?_
      refine al_pure rfl rfl rfl (pure_cmp rfl rfl gU gU rfl) ?_
      refine al_pure rfl rfl rfl (pure_move rfl gU) ?_
      refine al_pure rfl rfl rfl (pure_move rfl gU) ?_
      refine al_pure rfl rfl rfl (pure_move rfl gU) ?_
      refine al_pure rfl rfl rfl (pure_cmp rfl rfl (fun hh => hh) (fun hh => hh) rfl) ?_
      refine al_pure rfl rfl rfl (pure_and rfl rfl gU (fun _ hi => gP rfl hi)) ?_
      refine al_pure rfl rfl rfl (pure_move rfl gU) ?_
      refine al_pure rfl rfl rfl (pure_loadBoxRow rfl gU rfl rfl rfl rfl rfl) ?_
      refine al_pure rfl rfl rfl (pure_loadBoxRow rfl gU rfl rfl rfl rfl rfl) ?_
      refine al_call rfl rfl rfl rfl rfl rfl gU (fun hh => gA ((fun hh => hh) hh) (gA ((fun hh => hh) hh) (rfl))) (Same_spec _ _ _ (Nat.le_refl _)) rfl ?_
      refine al_sub (s := { t := [(66, _, _), (69, _, _)], bx := [], ow := [] }) (sub_mk (⟨sx rfl, ⟨sx rfl, trivial⟩⟩) trivial trivial) ?_
      refine al_pure rfl rfl rfl (pure_and rfl rfl gU (fun _ hi => gP rfl hi)) ?_
      refine al_pure rfl rfl rfl (pure_assign rfl gU) ?_
      refine al_nil ?_
      refine awp_ret ?_
      repeat (first | refine tR ?_ | refine bR ?_)
      refine ret_ok rfl ?_ trivial
      exact xb_eq (by simp [sameB_eq])
    · have hd : (decE t i s).2.2 = 0 := by
        simp [sameB_eq] at hc2
        exact hc2
      obtain ⟨h1, h2⟩ := enc_dec hd
      refine awp_skip ?_
      refine awp_seq (awp_region ?_)
      refine al_pure rfl rfl rfl (pure_move rfl gU) ?_
      refine al_pure rfl rfl rfl (pure_move rfl gU) ?_
      refine al_pure rfl rfl rfl (pure_loadBoxRow rfl gU rfl rfl rfl rfl rfl) ?_
      refine al_call rfl rfl rfl rfl rfl rfl gU gU (cEncode_spec _ _ _) rfl ?_
      refine al_pure rfl rfl rfl (pure_move rfl gU) ?_
      refine al_pure rfl rfl rfl (pure_extract rfl gU rfl) ?_
      refine al_pure rfl rfl rfl (pure_extract rfl gU rfl) ?_
      refine al_pure rfl rfl rfl (pure_assign rfl gU) ?_
      refine al_pure rfl rfl rfl (pure_assign rfl gU) ?_
      refine al_nil ?_
      refine awp_sub (s := { t := [(2, _, _), (13, _, _), (14, _, _)], bx := [], ow := [] }) (sub_mk (⟨sx rfl, ⟨sx rfl, ⟨sx rfl, trivial⟩⟩⟩) trivial trivial) ?_
      refine awp_seq (awp_region ?_)
      refine al_pure rfl rfl rfl (pure_move rfl gU) ?_
      refine al_pure rfl rfl rfl (pure_cmp rfl rfl gU gU rfl) ?_
      refine al_pure rfl rfl rfl (pure_move rfl gU) ?_
      refine al_pure rfl rfl rfl (pure_move rfl gU) ?_
      refine al_pure rfl rfl rfl (pure_move rfl gU) ?_
      refine al_pure rfl rfl rfl (pure_cmpS rfl rfl (fun hh => hh) (fun hh => hh) rfl) ?_
      refine al_pure rfl rfl rfl (pure_and rfl rfl gU (fun _ hi => gP rfl hi)) ?_
      refine al_pure rfl rfl rfl (pure_assign rfl gU) ?_
      refine al_nil ?_
      refine awp_ret ?_
      repeat (first | refine tR ?_ | refine bR ?_)
      refine ret_ok rfl ?_ trivial
      rw [h1]
      exact xb_eq (by simp)
theorem CodecPrefix_spec (t : List Fm) (i : Int) (s : List UInt8) : Ctr sys 7 [xtab t, xi i, xs s] [] (xb true) none [] := by
  refine spec_intro Try.func7 rfl rfl rfl rfl rfl rfl ?_
  refine awp_seq (awp_region ?_)
  refine al_pure rfl rfl rfl (pure_assign rfl gU) ?_
  refine al_nil ?_
  refine awp_seq ?_
  refine awp_seq (awp_region ?_)
  refine al_call rfl rfl rfl rfl rfl rfl gU gU (awake_spec) rfl ?_
  refine al_pure rfl rfl rfl (pure_not rfl gU) ?_
  refine al_pure rfl rfl rfl (pure_move rfl gU) ?_
  refine al_pure rfl rfl rfl (pure_move rfl gU) ?_
  refine al_pure rfl rfl rfl (pure_move rfl gU) ?_
  refine al_call rfl rfl rfl rfl rfl rfl gU (fun hh => gA ((fun hh => hh) hh) (gA ((fun hh => hh) hh) (rfl))) (few_spec _ _) rfl ?_
  refine al_pure rfl rfl rfl (pure_not rfl (fun hh => hh)) ?_
  refine al_pure rfl rfl rfl (pure_or rfl rfl gU (fun _ hi => gP rfl hi)) ?_
  refine al_nil ?_
  refine awp_sub (s := { t := [(0, _, _), (1, _, _), (2, _, _), (23, _, _)], bx := [], ow := [] }) (sub_mk (⟨sx rfl, ⟨sx rfl, ⟨sx rfl, ⟨sx rfl, trivial⟩⟩⟩⟩) trivial trivial) ?_
  refine awp_cond rfl (fun hc => ?_) (fun hc => ?_)
  · refine awp_seq (awp_region ?_)
    refine al_call rfl rfl rfl rfl rfl rfl gU gU (awake_spec) rfl ?_
    refine al_pure rfl rfl rfl (pure_assign rfl gU) ?_
    refine al_nil ?_
    refine awp_ret ?_
    repeat (first | refine tR ?_ | refine bR ?_)
    refine ret_ok rfl ?_ trivial
    rfl
  · try simp only [nn, Fd.rows_len, Fm.rows_len, V.rows_len, intR_len] at hc
    have hs := few1_300 (t := t) (s := s) (by simpa using hc)
    refine awp_skip ?_
    refine awp_seq (awp_region ?_)
    refine al_pure rfl rfl rfl (pure_move rfl gU) ?_
    refine al_pure rfl rfl rfl (pure_move rfl gU) ?_
    refine al_pure rfl rfl rfl (pure_move rfl gU) ?_
    refine al_call rfl rfl rfl rfl rfl rfl gU gU (cPrefix_spec _ _ _ (by omega)) rfl ?_
    refine al_pure rfl rfl rfl (pure_move rfl gU) ?_
    refine al_pure rfl rfl rfl (pure_extract rfl gU rfl) ?_
    refine al_pure rfl rfl rfl (pure_extract rfl gU rfl) ?_
    refine al_pure rfl rfl rfl (pure_extract rfl gU rfl) ?_
    refine al_do rfl (does_alloc rfl rfl rfl) ?_
    refine al_do rfl (does_store rfl rfl rfl rfl rfl rfl rfl) ?_
    refine al_pure rfl rfl rfl (pure_assign rfl gU) ?_
    refine al_pure rfl rfl rfl (pure_assign rfl gU) ?_
    refine al_nil ?_
    refine awp_sub (s := { t := [(0, _, _), (1, _, _), (2, _, _), (7, _, _), (8, _, _), (9, _, _)], bx := [((.l 7), _)], ow := [] }) (sub_mk (⟨sx rfl, ⟨sx rfl, ⟨sx rfl, ⟨sx rfl, ⟨sx rfl, ⟨sx rfl, trivial⟩⟩⟩⟩⟩⟩) (⟨sx rfl, trivial⟩) trivial) ?_
    refine awp_seq (awp_region ?_)
    refine al_pure rfl rfl rfl (pure_move rfl gU) ?_
    refine al_pure rfl rfl rfl (pure_move rfl gU) ?_
    refine al_pure rfl rfl rfl (pure_move rfl gU) ?_
    refine al_call rfl rfl rfl rfl rfl rfl gU gU (rPrefix_spec _ _ _ (by omega)) rfl ?_
    refine al_pure rfl rfl rfl (pure_move rfl gU) ?_
    refine al_pure rfl rfl rfl (pure_extract rfl gU rfl) ?_
    refine al_pure rfl rfl rfl (pure_extract rfl gU rfl) ?_
    refine al_pure rfl rfl rfl (pure_extract rfl gU rfl) ?_
    refine al_do rfl (does_alloc rfl rfl rfl) ?_
    refine al_do rfl (does_store rfl rfl rfl rfl rfl rfl rfl) ?_
    refine al_pure rfl rfl rfl (pure_assign rfl gU) ?_
    refine al_pure rfl rfl rfl (pure_assign rfl gU) ?_
    refine al_nil ?_
    refine awp_sub (s := { t := [(0, _, _), (1, _, _), (2, _, _), (7, _, _), (8, _, _), (9, _, _), (10, _, _), (11, _, _), (12, _, _)], bx := [((.l 10), _), ((.l 7), _)], ow := [] }) (sub_mk (⟨sx rfl, ⟨sx rfl, ⟨sx rfl, ⟨sx rfl, ⟨sx rfl, ⟨sx rfl, ⟨sx rfl, ⟨sx rfl, ⟨sx rfl, trivial⟩⟩⟩⟩⟩⟩⟩⟩⟩) (⟨sx rfl, ⟨sx rfl, trivial⟩⟩) trivial) ?_
    refine awp_seq ?_
    refine awp_seq (awp_region ?_)
    refine al_pure rfl rfl rfl (pure_move rfl gU) ?_
    refine al_pure rfl rfl rfl (pure_move rfl gU) ?_
    refine al_pure rfl rfl rfl (pure_cmp rfl rfl gU gU rfl) ?_
    refine al_pure rfl rfl rfl (pure_move rfl gU) ?_
    refine al_pure rfl rfl rfl (pure_move rfl gU) ?_
    refine al_pure rfl rfl rfl (pure_move rfl gU) ?_
    refine al_pure rfl rfl rfl (pure_cmp rfl rfl (fun hh => hh) (fun hh => hh) rfl) ?_
    refine al_pure rfl rfl rfl (pure_or rfl rfl gU (fun _ hi => gP rfl hi)) ?_
    refine al_pure rfl rfl rfl (pure_move rfl gU) ?_
    refine al_pure rfl rfl rfl (pure_loadBoxRow rfl gU rfl rfl rfl rfl rfl) ?_
    refine al_pure rfl rfl rfl (pure_loadBoxRow rfl gU rfl rfl rfl rfl rfl) ?_
    refine al_call rfl rfl rfl rfl rfl rfl gU (fun hh => gA ((fun hh => hh) hh) (gA ((fun hh => hh) hh) (rfl))) (Same_spec _ _ _ (Nat.le_refl _)) rfl ?_
    refine al_sub (s := { t := [(0, _, _), (1, _, _), (2, _, _), (7, _, _), (8, _, _), (9, _, _), (10, _, _), (11, _, _), (12, _, _), (49, _, _), (52, _, _)], bx := [((.l 10), _), ((.l 7), _)], ow := [] }) (sub_mk (⟨sx rfl, ⟨sx rfl, ⟨sx rfl, ⟨sx rfl, ⟨sx rfl, ⟨sx rfl, ⟨sx rfl, ⟨sx rfl, ⟨sx rfl, ⟨sx rfl, ⟨sx rfl, trivial⟩⟩⟩⟩⟩⟩⟩⟩⟩⟩⟩) (⟨sx rfl, ⟨sx rfl, trivial⟩⟩) trivial) ?_
    refine al_pure rfl rfl rfl (pure_not rfl (fun hh => hh)) ?_
    refine al_pure rfl rfl rfl (pure_or rfl rfl gU (fun _ hi => gP rfl hi)) ?_
    refine al_pure rfl rfl rfl (pure_move rfl gU) ?_
    refine al_pure rfl rfl rfl (pure_move rfl gU) ?_
    refine al_pure rfl rfl rfl (pure_cmp rfl rfl (fun hh => hh) gU rfl) ?_
    refine al_pure rfl rfl rfl (pure_or rfl rfl gU (fun _ hi => gP rfl hi)) ?_
    refine al_pure rfl rfl rfl (pure_move rfl gU) ?_
    refine al_pure rfl rfl rfl (pure_move rfl gU) ?_
    refine al_pure rfl rfl rfl (pure_cmp rfl rfl (fun hh => hh) gU rfl) ?_
    refine al_pure rfl rfl rfl (pure_or rfl rfl gU (fun _ hi => gP rfl hi)) ?_
    refine al_pure rfl rfl rfl (pure_move rfl gU) ?_
    refine al_pure rfl rfl rfl (pure_move rfl gU) ?_
    refine al_sub (s := { t := [(0, _, _), (1, _, _), (2, _, _), (7, _, _), (8, _, _), (9, _, _), (10, _, _), (11, _, _), (12, _, _), (63, _, _), (64, _, _)], bx := [((.l 10), _), ((.l 7), _)], ow := [] }) (sub_mk (⟨sx rfl, ⟨sx rfl, ⟨sx rfl, ⟨sx rfl, ⟨sx rfl, ⟨sx rfl, ⟨sx rfl, ⟨sx rfl, ⟨sx rfl, ⟨sx rfl, ⟨sx rfl, trivial⟩⟩⟩⟩⟩⟩⟩⟩⟩⟩⟩) (⟨sx rfl, ⟨sx rfl, trivial⟩⟩) trivial) ?_
    refine al_pure rfl rfl rfl (pure_move rfl gU) ?_
    refine al_pure rfl rfl rfl (pure_lenS rfl (fun hh => hh) (Try.underlying9)) ?_
    refine al_pure rfl rfl rfl (pure_cmp rfl rfl (fun hh => hh) (fun hh => hh) rfl) ?_
    refine al_pure rfl rfl rfl (pure_or rfl rfl gU (fun _ hi => gP rfl hi)) ?_
    refine al_nil ?_
    refine awp_cond rfl (fun hc2 => ?_) (fun hc2 => ?_)
    · by_cases hd : (preE t i s).2.2 ≠ 0
      · refine awp_seq (awp_region ?_)
        refine al_pure rfl rfl rfl (pure_move rfl gU) ?_
        refine al_pure rfl rfl rfl (pure_move rfl gU) ?_
        refine al_pure rfl rfl rfl (pure_cmp rfl rfl gU gU rfl) ?_
        refine al_pure rfl rfl rfl (pure_move rfl gU) ?_
        refine al_pure rfl rfl rfl (pure_move rfl gU) ?_
        refine al_pure rfl rfl rfl (pure_move rfl gU) ?_
        refine al_pure rfl rfl rfl (pure_cmp rfl rfl (fun hh => hh) (fun hh => hh) rfl) ?_
        refine al_pure rfl rfl rfl (pure_and rfl rfl gU (fun _ hi => gP rfl hi)) ?_
        refine al_sub (s := { t := [(7, _, _), (10, _, _), (76, _, _)], bx := [((.l 10), _), ((.l 7), _)], ow := [] }) (sub_mk (⟨sx rfl, ⟨sx rfl, ⟨sx rfl, trivial⟩⟩⟩) (⟨sx rfl, ⟨sx rfl, trivial⟩⟩) trivial) ?_
        refine al_pure rfl rfl rfl (pure_move rfl gU) ?_
        refine al_pure rfl rfl rfl (pure_loadBoxRow rfl gU rfl rfl rfl rfl rfl) ?_
        refine al_pure rfl rfl rfl (pure_loadBoxRow rfl gU rfl rfl rfl rfl rfl) ?_
        refine al_call rfl rfl rfl rfl rfl rfl gU (fun hh => gA ((fun hh => hh) hh) (gA ((fun hh => hh) hh) (rfl))) (Same_spec _ _ _ (Nat.le_refl _)) rfl ?_
        refine al_pure rfl rfl rfl (pure_and rfl rfl gU (fun _ hi => gP rfl hi)) ?_
        refine al_pure rfl rfl rfl (pure_assign rfl gU) ?_
        refine al_nil ?_
        refine awp_ret ?_
        repeat (first | refine tR ?_ | refine bR ?_)
        refine ret_ok rfl ?_ trivial
        exact xb_eq (by simp [sameB_eq])
      · exfalso
        have hd := Decidable.not_not.1 hd
        obtain ⟨n, h1, h2, h3⟩ := pre_dec hd
        rw [h1, hd] at hc2
        simp [sameB_eq] at hc2
        omega
    · have hd : (preE t i s).2.2 = 0 := by
        simp [sameB_eq] at hc2
        omega
      obtain ⟨n, h1, h2, h3⟩ := pre_dec hd
      refine awp_skip ?_
      refine awp_seq (awp_region ?_)
      refine al_pure rfl rfl rfl (pure_move rfl gU) ?_
      refine al_pure rfl rfl rfl (pure_move rfl gU) ?_
      refine al_pure rfl rfl rfl (pure_move rfl gU) ?_
      refine al_pure rfl rfl rfl (pure_move rfl gU) ?_
      refine al_pure rfl rfl rfl (pure_sliceS (h' := n) rfl gU Try.underlying9 (fun _ => rfl) (fun _ => ⟨_, _, _, rfl, gU, by first | omega | (simp at hh; omega)⟩) (fun hh => by first | omega | (simp at hh; omega)) (fun hh => by first | omega | (simp at hh; omega))) ?_
      refine al_call rfl rfl rfl rfl rfl rfl gU gU (cDecode_spec _ _ _ (by simp only [List.length_drop, List.length_take]; omega)) rfl ?_
      refine al_pure rfl rfl rfl (pure_move rfl gU) ?_
      refine al_pure rfl rfl rfl (pure_extract rfl gU rfl) ?_
      refine al_sub (s := { t := [(82, _, _), (89, _, _)], bx := [], ow := [] }) (sub_mk (⟨sx rfl, ⟨sx rfl, trivial⟩⟩) trivial trivial) ?_
      refine al_pure rfl rfl rfl (pure_extract rfl gU rfl) ?_
      refine al_pure rfl rfl rfl (pure_extract rfl gU rfl) ?_
      refine al_do rfl (does_alloc rfl rfl rfl) ?_
      refine al_do rfl (does_store rfl rfl rfl rfl rfl rfl rfl) ?_
      refine al_pure rfl rfl rfl (pure_assign rfl gU) ?_
      refine al_pure rfl rfl rfl (pure_assign rfl gU) ?_
      refine al_nil ?_
      refine awp_sub (s := { t := [(15, _, _)], bx := [], ow := [] }) (sub_mk (⟨sx rfl, trivial⟩) trivial trivial) ?_
      refine awp_seq (awp_region ?_)
      refine al_pure rfl rfl rfl (pure_move rfl gU) ?_
      refine al_pure rfl rfl rfl (pure_cmp rfl rfl gU gU rfl) ?_
      refine al_pure rfl rfl rfl (pure_assign rfl gU) ?_
      refine al_nil ?_
      refine awp_ret ?_
      repeat (first | refine tR ?_ | refine bR ?_)
      refine ret_ok rfl ?_ trivial
      exact xb_eq (by simp [h3])
end Go.Proofs.Ytgjclggjkhapfaa
/- The given statement CodecPrefix: for every input the law returns true, and the input reads as before. No condition. -/
namespace Go.Proofs.Ytgjclggjkhapfaa.codecPrefixDone
open Go Go.Abs Go.Proofs Go.Proofs.Ytgjclggjkhapfaa
open Go.ChangeShapes Go.WideShapes Go.ChangeAt Go.RowKit
set_option linter.unusedVariables false
set_option linter.unusedSimpArgs false
set_option maxRecDepth 100000 in
theorem lifted (os : Os) (started : os.Started) (H : Type) (enc : TypeId × Value → H) :
    ReturnsInHanded {} Try.checked os 7 .any (Rows.codecPrefixSpec.pre6 enc Try.prog Try.f7 Rows.codecPrefixRow.domain false) (Rows.codecPrefixSpec.post enc Try.prog Try.f7 false true false false) := by
  refine returnsInHanded_of_change (C := Try.checked) own started (by kernel_rfl) Try.func7
    (ChangeSpec.witness6 (enc := enc) (C := Try.checked) false ⟨#[], #[.slice none 0 0, .int .i64 0, .string ByteArray.empty], []⟩ 8 (by kernel_rfl) (by kernel_rfl) (by kernel_rfl) (by kernel_rfl)) ?_
  intro W base args ds gs before hval0 hW hcnd _
  have hval : ∀ (j : Nat) t v, Try.f7.params[j]? = some t → args[j]? = some v → Value.okWide Try.prog W .any base t v := hval0
  have hW' := hW
  obtain ⟨p, q, hA0, hV, rfl, hfz, hnd⟩ := hW
  have hA : DataW.TrodAll enc Try.prog W 0 (fun _ => true) true Try.f7.params.toList args.toList ds p := hA0
  rw [Try.params7] at hA hval
  obtain ⟨v0, vs0, d0, ds0, p0, q0, hargs, rfl, rfl, h0, r0⟩ := trodAll_cons hA
  obtain ⟨v1, vs1, d1, ds1, p1, q1, rfl, rfl, rfl, h1, r1⟩ := trodAll_cons r0
  obtain ⟨v2, vs2, d2, ds2, p2, q2, rfl, rfl, rfl, h2, r2⟩ := trodAll_cons r1
  obtain ⟨rfl, rfl, rfl⟩ := trodAll_nil r2
  obtain rfl : args = #[v0, v1, v2] := by cases args; simp_all
  obtain ⟨rfl, rfl⟩ := trodVars_none hV
  have lt0 : ∀ x ∈ p0, x.block < W.heap.size := by obtain ⟨m, hm⟩ := h0; exact DataW.trod_lt m _ _ _ hm
  have lt1 : ∀ x ∈ p1, x.block < W.heap.size := by obtain ⟨m, hm⟩ := h1; exact DataW.trod_lt m _ _ _ hm
  have lt2 : ∀ x ∈ p2, x.block < W.heap.size := by obtain ⟨m, hm⟩ := h2; exact DataW.trod_lt m _ _ _ hm
  obtain ⟨n0, c0, ht0, hx0⟩ := arg_one plainL (by decide) Try.underlying22 rfl (hval 0 22 v0 rfl rfl) h0
  obtain ⟨x0_0, rfl⟩ := table_of ht0
  obtain ⟨n1, c1, ht1, hx1⟩ := arg_one plainL (by decide) Try.underlying3 rfl (hval 1 3 v1 rfl rfl) h1
  obtain ⟨x1_0, rfl⟩ := int1_of ht1
  obtain ⟨n2, c2, ht2, hx2⟩ := arg_one plainL (by decide) Try.underlying9 rfl (hval 2 9 v2 rfl rfl) h2
  obtain ⟨x2_0, rfl⟩ := str1_of ht2
  refine (calls_true (CodecPrefix_spec x0_0 x1_0 x2_0) (W := W) (vs := [v0, v1, v2]) ⟨hx0, hx1, hx2, trivial⟩).mono fun e W' ⟨he, bel⟩ => ?_
  subst he
  exact ⟨_, rfl, _, _, _, [], _, [], hW', trodAll_mk1 (shut_bool Try.underlying4 _),
    (trodAll_cons_mk (Below.trod laidOut (by kernel_rfl) (of_decide_eq_true (by kernel_rfl)) h0 bel lt0) (trodAll_cons_mk (Below.trod laidOut (by kernel_rfl) (of_decide_eq_true (by kernel_rfl)) h1 bel lt1) (trodAll_cons_mk (Below.trod laidOut (by kernel_rfl) (of_decide_eq_true (by kernel_rfl)) h2 bel lt2) trodAll_mk0))), rfl, bel.frame _, fun h => by cases h⟩
theorem over : Rows.codecPrefixRow.holds Try.pinned (OpenSpec.ofChange Rows.codecPrefixSpec) :=
  OpenClaim.holds_of_wide 7 Try.f7 rfl rfl rfl rfl rfl rfl rfl ⟨rfl, rfl, rfl, rfl, rfl⟩ rfl rfl rfl rfl rfl (by kernel_rfl) Try.func7 (by kernel_rfl)
    (of_decide_eq_true (by kernel_rfl)) (by unfold Func.isWrapper; first | (rw [if_pos (by decide +kernel)]; kernel_rfl) | (rw [if_neg (by decide +kernel)]; exact ⟨rfl, rfl⟩))
    (fun os started H enc _ => lifted os started H enc)
theorem proved : Rows.CodecPrefixSaid := over
#print axioms proved
end Go.Proofs.Ytgjclggjkhapfaa.codecPrefixDone
