/- The given statement CodecSample: for every input the law returns true, and the input reads as before. No condition. -/
import Derived.Test.YtgjclggjkhapfaaM6
import Derived.Test.YtgjclggjkhapfaaRows
import Derived.ProofKit
import Derived.OpenShut
import Derived.ChangeOld
/- Laws of the codec (plain): what is encoded is decoded, and back. -/
set_option linter.unusedVariables false
set_option linter.unusedSimpArgs false
namespace Go.Proofs.Ytgjclggjkhapfaa
open Go Go.Abs
theorem getD_mid (p : List UInt8) (b : UInt8) (q : List UInt8) : (p ++ b :: q).getD p.length 0 = b := by simp
theorem slice_mid (p l q : List UInt8) : ((p ++ (l ++ q)).take (p.length + l.length)).drop p.length = l := by
  rw [List.take_length_add_append, List.take_left', List.drop_left']
  · rfl
  · rfl
theorem tag_mid : ∀ (l p q : List UInt8) (e : Nat), p.length + l.length ≤ e → tagP (p ++ (l ++ q)) e l p.length = ⟨v0, p.length + l.length, true⟩
  | [], p, q, e, h => by rw [tagP]; rfl
  | c :: l, p, q, e, h => by
    have ih := tag_mid l (p ++ [c]) q e (by simp at h ⊢; omega)
    rw [List.append_assoc, List.singleton_append] at ih
    simp only [List.length_append, List.length_singleton] at ih
    rw [tagP, List.cons_append, getD_mid, if_neg (by simp only [List.length_cons] at h; rintro (h1 | h1); omega; exact h1 rfl), ih]
    simp only [List.length_cons]
    rw [show p.length + 1 + l.length = p.length + (l.length + 1) by omega]
theorem fvE_both {rec : Int → V → Int} {f : Fd} {v : V} (h : fvE rec f v = 0) : fitsB f v = true ∧ rngB f v = true := by
  unfold fvE at h
  split at h
  · simp at h
  · rename_i h1
    split at h
    · simp at h
    · rename_i h2
      exact ⟨by simpa using h1, by simpa using h2⟩
theorem V.of_bytes {x : V} (h1 : x.number = 0) (h2 : x.kids.length = 0) : x = bv x.bytes := V.ext' rfl h1 (List.eq_nil_of_length_eq_zero h2)
theorem fld_mid {k : Bool} {rec : Int → Nat → Nat → Pl} {rec' : Int → V → Int} {r : Int → V → List UInt8} {t : List Fm} {f : Fd} {x : V} {s p q : List UInt8} {e : Nat} {pre : Bool} (hf : FdOk f) (hv : fvE rec' f x = 0) (h5 : f.kind ≠ 5)
    (hs : s = p ++ (encF r f x ++ q)) (he : p.length + (encF r f x).length ≤ e) (h6 : f.kind = 6 → e = p.length + (encF r f x).length) :
    fldP k rec t f s p.length e pre = ⟨x, p.length + (encF r f x).length, true⟩ := by
  obtain ⟨h1, h2⟩ := fvE_both hv
  obtain ⟨w1, w3, w2, w4⟩ := fvE_ok hf hv fun q => absurd q h5
  obtain ⟨k1, k2, k3, k4, k5, k6, k7⟩ := hf
  obtain kd | kd | kd | kd | kd : f.kind = 1 ∨ f.kind = 2 ∨ f.kind = 3 ∨ f.kind = 4 ∨ f.kind = 6 := by omega
  · have hx : x = v0 := by
      unfold fitsB at h1
      rw [if_pos kd] at h1
      unfold zeroB at h1
      simp only [Bool.and_eq_true, decide_eq_true_eq] at h1
      exact V.ext' h1.1.1 h1.1.2 (List.eq_nil_of_length_eq_zero h1.2)
    have he' : encF r f x = f.bytes := by rw [encF, if_pos kd]
    rw [he'] at hs he ⊢
    rw [fldP, if_pos kd, hs, tag_mid _ _ _ _ he, hx]
  · have he' : encF r f x = x.bytes := by unfold encF; rw [if_neg (by omega), if_neg (by omega), if_neg (by omega), if_neg (by omega)]
    rw [he'] at hs he ⊢
    unfold fitsB at h1
    rw [if_neg (by omega), if_neg (by omega), if_neg (by omega)] at h1
    unfold rngB at h2
    rw [if_pos kd] at h2
    simp only [Bool.and_eq_true, decide_eq_true_eq] at h1 h2
    have hn : f.n.toNat = x.bytes.length := by omega
    rw [fldP, if_neg (by omega), if_pos kd, takeP, hn, if_neg (by omega), hs, slice_mid, ← V.of_bytes h1.1 h1.2]
  · have he' : encF r f x = UInt8.ofNat x.bytes.length :: x.bytes := by unfold encF; rw [if_neg (by omega), if_pos kd]
    rw [he'] at hs he ⊢
    unfold fitsB at h1
    rw [if_neg (by omega), if_neg (by omega), if_neg (by omega)] at h1
    unfold rngB at h2
    rw [if_neg (by omega), if_pos kd] at h2
    simp only [Bool.and_eq_true, decide_eq_true_eq] at h1 h2
    have hb : s.getD p.length 0 = UInt8.ofNat x.bytes.length := by rw [hs, List.cons_append, getD_mid]
    have hbn : (UInt8.ofNat x.bytes.length).toNat = x.bytes.length := by rw [UInt8.toNat_ofNat']; have := w3 kd; omega
    simp only [List.length_cons] at he ⊢
    rw [fldP, if_neg (by omega), if_neg (by omega), if_pos kd, if_neg (by omega), hb, hbn, if_neg (by omega), takeP, if_neg (by omega)]
    have hs2 : s = (p ++ [UInt8.ofNat x.bytes.length]) ++ (x.bytes ++ q) := by rw [hs]; simp
    have hsl := slice_mid (p ++ [UInt8.ofNat x.bytes.length]) x.bytes q
    simp only [List.length_append, List.length_singleton] at hsl
    rw [hs2, hsl, ← V.of_bytes h1.1 h1.2, show p.length + 1 + x.bytes.length = p.length + (x.bytes.length + 1) by omega]
  · have he' : encF r f x = [UInt8.ofNat x.number.toNat] := by unfold encF; rw [if_neg (by omega), if_neg (by omega), if_pos kd]
    rw [he'] at hs he ⊢
    unfold fitsB at h1
    rw [if_neg (by omega), if_pos kd] at h1
    unfold rngB at h2
    rw [if_neg (by omega), if_neg (by omega), if_pos kd] at h2
    simp only [Bool.and_eq_true, decide_eq_true_eq] at h1 h2
    have hb : s.getD p.length 0 = UInt8.ofNat x.number.toNat := by rw [hs, List.singleton_append, getD_mid]
    have hw := w4 kd
    have hbn : ((UInt8.ofNat x.number.toNat).toNat : Int) = x.number := by rw [UInt8.toNat_ofNat']; omega
    simp only [List.length_singleton] at he ⊢
    rw [fldP, if_neg (by omega), if_neg (by omega), if_neg (by omega), if_pos kd, if_neg (by omega), hb, hbn, if_neg (by omega)]
    have : V.mk [] x.number [] = x := V.ext' h1.1.symm rfl (List.eq_nil_of_length_eq_zero h1.2).symm
    rw [this]
  · have he' : encF r f x = x.bytes := by unfold encF; rw [if_neg (by omega), if_neg (by omega), if_neg (by omega), if_neg (by omega)]
    have h6 := h6 kd
    rw [he'] at hs he h6 ⊢
    unfold fitsB at h1
    rw [if_neg (by omega), if_neg (by omega), if_neg (by omega)] at h1
    unfold rngB at h2
    rw [if_neg (by omega), if_neg (by omega), if_neg (by omega), if_pos kd] at h2
    simp only [Bool.and_eq_true, decide_eq_true_eq] at h1 h2
    have hn : e - p.length = x.bytes.length := by omega
    rw [fldP, if_neg (by omega), if_neg (by omega), if_neg (by omega), if_neg (by omega), if_neg (by omega), hn, if_neg (by omega), if_neg (by omega), show min x.bytes.length f.high.toNat = x.bytes.length by omega, takeP, if_neg (by omega), hs, slice_mid, ← V.of_bytes h1.1 h1.2]
theorem readL_mid {k : Bool} {rec : Int → Nat → Nat → Pl} {r : Int → V → List UInt8} {t : List Fm} {s : List UInt8} {pre : Bool} : ∀ (fs : List Fd) (vs acc : List V) (p q : List UInt8), vs.length = fs.length → s = p ++ (encL r fs vs ++ q) →
    (∀ j, j < fs.length → ∀ (p q : List UInt8) (e : Nat), s = p ++ (encF r (fs.getD j default) (vs.getD j default) ++ q) → p.length + (encF r (fs.getD j default) (vs.getD j default)).length ≤ e →
      (j + 1 = fs.length → e = p.length + (encF r (fs.getD j default) (vs.getD j default)).length) → fldP k rec t (fs.getD j default) s p.length e pre = ⟨vs.getD j default, p.length + (encF r (fs.getD j default) (vs.getD j default)).length, true⟩) →
    readL k rec t s (p.length + (encL r fs vs).length) pre fs acc p.length = ⟨.mk [] 0 (acc ++ vs), p.length + (encL r fs vs).length, true⟩
  | [], [], acc, p, q, _, _, _ => by rw [readL, List.append_nil]; rfl
  | [], _ :: _, _, _, _, h, _, _ => by simp at h
  | _ :: _, [], _, _, _, h, _, _ => by simp at h
  | f :: fs, v :: vs, acc, p, q, hl, hs, h => by
    have hs' : s = p ++ (encF r f v ++ (encL r fs vs ++ q)) := by rw [hs, encL, List.append_assoc]
    have h0 := h 0 (by simp) p (encL r fs vs ++ q) (p.length + (encL r (f :: fs) (v :: vs)).length) (by simpa using hs') (by simp [encL]) (by
      intro h1
      have : fs = [] := by simpa using h1.symm
      subst this
      have : vs = [] := by simpa using hl
      subst this
      simp [encL])
    simp only [List.getD_cons_zero] at h0
    have hs2 : s = (p ++ encF r f v) ++ (encL r fs vs ++ q) := by rw [hs', List.append_assoc]
    have ih := readL_mid fs vs (acc ++ [v]) (p ++ encF r f v) q (by simpa using hl) hs2 fun j hj p q e a b c => by
      have := h (j + 1) (by simpa using hj) p q e (by simpa using a) (by simpa using b) (by intro hh; simpa using c (by simpa using hh))
      simpa using this
    simp only [List.length_append] at ih
    rw [readL, h0, if_pos rfl]
    simp only [encL, List.length_append]
    rw [← Nat.add_assoc, ih, List.append_assoc]
    rfl
/-- The lengths are within the bounds. -/
theorem encF_bnd {rec' : Int → V → Int} {r : Int → V → List UInt8} {rb : Int → Int × Int} {f : Fd} {x : V} (hf : FdOk f) (hv : fvE rec' f x = 0) (h5 : f.kind = 5 → (rb f.n).1 ≤ (r f.n x).length ∧ ((r f.n x).length : Int) ≤ (rb f.n).2) :
    (bndF rb f).1 ≤ (encF r f x).length ∧ ((encF r f x).length : Int) ≤ (bndF rb f).2 := by
  obtain ⟨h1, h2⟩ := fvE_both hv
  obtain ⟨k1, k2, k3, k4, k5, k6, k7⟩ := hf
  obtain ⟨c1, c2, c3, c4, c5, c6⟩ := bndF_cases rb f
  unfold rngB at h2
  unfold encF
  obtain kd | kd | kd | kd | kd | kd : f.kind = 1 ∨ f.kind = 2 ∨ f.kind = 3 ∨ f.kind = 4 ∨ f.kind = 5 ∨ f.kind = 6 := by omega
  · have := c1 kd; rw [if_pos kd]; omega
  · have := c2 kd; rw [if_pos kd] at h2; simp only [decide_eq_true_eq] at h2; rw [if_neg (by omega), if_neg (by omega), if_neg (by omega), if_neg (by omega)]; omega
  · have := c3 kd; rw [if_neg (by omega), if_pos kd] at h2; simp only [decide_eq_true_eq] at h2; rw [if_neg (by omega), if_pos kd]; simp only [List.length_cons]; omega
  · have := c4 kd; rw [if_neg (by omega), if_neg (by omega), if_pos kd]; simp only [List.length_singleton]; omega
  · have := c5 kd; have := h5 kd; rw [if_neg (by omega), if_neg (by omega), if_neg (by omega), if_pos kd]; simp only [List.length_cons]; omega
  · have := c6 kd; rw [if_neg (by omega), if_neg (by omega), if_neg (by omega), if_pos kd] at h2; simp only [Bool.and_eq_true, decide_eq_true_eq] at h2; rw [if_neg (by omega), if_neg (by omega), if_neg (by omega), if_neg (by omega)]; omega
theorem encL_bnd {r : Int → V → List UInt8} {rb : Int → Int × Int} : ∀ {fs : List Fd} {vs : List V}, vs.length = fs.length → (∀ j, j < fs.length → (bndF rb (fs.getD j default)).1 ≤ (encF r (fs.getD j default) (vs.getD j default)).length ∧ ((encF r (fs.getD j default) (vs.getD j default)).length : Int) ≤ (bndF rb (fs.getD j default)).2) →
    (bndL rb fs).1 ≤ (encL r fs vs).length ∧ ((encL r fs vs).length : Int) ≤ (bndL rb fs).2
  | [], [], _, _ => by simp [bndL, encL]
  | [], _ :: _, h, _ => by simp at h
  | _ :: _, [], h, _ => by simp at h
  | f :: fs, v :: vs, hl, h => by
    have h0 := h 0 (by simp)
    simp only [List.getD_cons_zero] at h0
    have ih := encL_bnd (r := r) (rb := rb) (fs := fs) (vs := vs) (by simpa using hl) fun j hj => by have := h (j + 1) (by simpa using hj); simpa using this
    simp only [bndL, encL, List.length_append]
    omega
theorem enc0_bnd {t : List Fm} {i : Int} {v : V} (hp : Plain1 (t.getD i.toNat default).fields) (h : val0 t i v = 0) : (bnd0 t i).1 ≤ (enc0 t i v).length ∧ ((enc0 t i v).length : Int) ≤ (bnd0 t i).2 :=
  encL_bnd (valG_ok h).2.2.1 fun j hj => encF_bnd (hp.ok j hj).1 ((valG_ok h).2.2.2 j hj) fun h5 => absurd h5 (hp.ok j hj).2.1
theorem encT_bnd {t : List Fm} {i : Int} {v : V} (hf : Fds t (t.getD i.toNat default).fields) (h : valT t i v = 0) : (bndT t i).1 ≤ (encT t i v).length ∧ ((encT t i v).length : Int) ≤ (bndT t i).2 :=
  encL_bnd (valG_ok h).2.2.1 fun j hj => encF_bnd (hf.ok j hj) ((valG_ok h).2.2.2 j hj) fun h5 => enc0_bnd (hf.nest j hj h5).2 (fvE_five h5 ((valG_ok h).2.2.2 j hj))
theorem V.of_kids {v : V} (h1 : v.bytes = []) (h2 : v.number = 0) : V.mk [] 0 v.kids = v := V.ext' h1.symm h2.symm rfl
theorem read0_mid {t : List Fm} {i : Int} {v : V} {s p q : List UInt8} (hp : Plain1 (t.getD i.toNat default).fields) (h : val0 t i v = 0) (hs : s = p ++ (enc0 t i v ++ q)) :
    read0 false t s i p.length (p.length + (enc0 t i v).length) = ⟨v, p.length + (enc0 t i v).length, true⟩ := by
  have hk := valG_ok h
  have := readL_mid (k := false) (rec := fun _ _ _ => failP 0) (r := fun _ _ => []) (t := t) (s := s) (pre := false) (t.getD i.toNat default).fields v.kids [] p q hk.2.2.1 hs fun j hj p q e a b c =>
    fld_mid (hp.ok j hj).1 (hk.2.2.2 j hj) (hp.ok j hj).2.1 a b fun h6 => absurd h6 (hp.ok j hj).2.2
  rw [List.nil_append, V.of_kids hk.1 hk.2.1] at this
  exact this
/-- A nested format is valid by itself. -/
theorem errE_nest {t : List Fm} {i : Int} (he : errE t i = 0) {k : Nat} (hk : k < (t.getD i.toNat default).fields.length) (h5 : ((t.getD i.toNat default).fields.getD k default).kind = 5) :
    errE t ((t.getD i.toNat default).fields.getD k default).n = 0 := by
  obtain ⟨hi, h⟩ := errE_fds he
  obtain ⟨q1, q2⟩ := h.nest k hk h5
  have q3 := (h.ok k hk).n
  have hv : validE t = 0 := by
    unfold errE at he
    split at he
    · rename_i hh; exact absurd he hh
    · rename_i hh; exact Decidable.not_not.1 hh
  unfold errE
  rw [if_neg (by omega), if_neg (by omega)]
theorem rest_last {t : List Fm} {i : Int} (he : errE t i = 0) (k : Nat) (hk : k < (t.getD i.toNat default).fields.length) (h6 : ((t.getD i.toNat default).fields.getD k default).kind = 6) : k + 1 = (t.getD i.toNat default).fields.length := by
  obtain ⟨h1, h2, h3⟩ := errE_zero he
  have := h1.fd i.toNat (by omega) k hk
  have := (fieldE_rng this).2.1
  unfold rangeB at this
  rw [if_neg (by omega), if_neg (by omega), if_neg (by omega), if_neg (by omega), if_pos h6] at this
  simp only [Bool.and_eq_true, decide_eq_true_eq] at this
  exact this.1.1.1
theorem nest_mid {t : List Fm} {n : Int} {v : V} {s p q : List UInt8} {e : Nat} (he : errE t n = 0) (hp : Plain1 (t.getD n.toNat default).fields) (h : val0 t n v = 0) (hs : s = p ++ (UInt8.ofNat (enc0 t n v).length :: enc0 t n v ++ q)) (hle : p.length + ((enc0 t n v).length + 1) ≤ e) :
    nestP false (read0 false t s) t n s p.length e = ⟨v, p.length + ((enc0 t n v).length + 1), true⟩ := by
  have hb : s.getD p.length 0 = UInt8.ofNat (enc0 t n v).length := by rw [hs, List.cons_append, getD_mid]
  have hl := enc0_len hp h
  have hbn : (UInt8.ofNat (enc0 t n v).length).toNat = (enc0 t n v).length := by rw [UInt8.toNat_ofNat']; omega
  have hs2 : s = (p ++ [UInt8.ofNat (enc0 t n v).length]) ++ (enc0 t n v ++ q) := by rw [hs]; simp
  have hr := read0_mid hp h hs2
  simp only [List.length_append, List.length_singleton] at hr
  have hbd := enc0_bnd hp h
  obtain ⟨z1, z2⟩ := boundsE_zero he
  rw [bnd_nest hp] at z1 z2
  rw [nestP, if_neg (by omega), hb, hbn, if_neg (by omega), if_neg (by omega), hr, if_neg (by simp)]
  rw [show p.length + 1 + (enc0 t n v).length = p.length + ((enc0 t n v).length + 1) by omega]
/-- Decoding leads back. -/
theorem dec_enc {t : List Fm} {i : Int} {v : V} (h : valE t i v = 0) : decE t i (encT t i v) = (v, 0, 0) := by
  have he : errE t i = 0 := by
    unfold valE at h
    split at h
    · rename_i h1; exact absurd h h1
    · rename_i h1; exact Decidable.not_not.1 h1
  obtain ⟨⟨hi, hf⟩, hv⟩ := valE_zero h
  have hk := valG_ok hv
  have key := readL_mid (k := false) (rec := read0 false t (encT t i v)) (r := enc0 t) (t := t) (s := encT t i v) (pre := false) (t.getD i.toNat default).fields v.kids [] [] [] hk.2.2.1 (by rw [List.nil_append, List.append_nil]; rfl) fun j hj p q e a b c => by
    by_cases h5 : ((t.getD i.toNat default).fields.getD j default).kind = 5
    · have he5 : encF (enc0 t) ((t.getD i.toNat default).fields.getD j default) (v.kids.getD j default) = UInt8.ofNat (enc0 t ((t.getD i.toNat default).fields.getD j default).n (v.kids.getD j default)).length :: enc0 t ((t.getD i.toNat default).fields.getD j default).n (v.kids.getD j default) := by
        unfold encF; rw [if_neg (by omega), if_neg (by omega), if_neg (by omega), if_pos h5]
      rw [he5] at a b ⊢
      simp only [List.length_cons] at b ⊢
      have := nest_mid (errE_nest he hj h5) (hf.nest j hj h5).2 (fvE_five h5 (hk.2.2.2 j hj)) a b
      rw [fldP, if_neg (by omega), if_neg (by omega), if_neg (by omega), if_neg (by omega), if_pos h5]
      exact this
    · exact fld_mid (hf.ok j hj) (hk.2.2.2 j hj) h5 a b fun h6 => c (rest_last he j hj h6)
  rw [List.nil_append, V.of_kids hk.1 hk.2.1] at key
  simp only [List.length_nil, Nat.zero_add] at key
  have hr : readT false t (encT t i v) false i 0 (encT t i v).length = ⟨v, (encT t i v).length, true⟩ := key
  rw [decE, if_neg (by omega), hr, if_neg (by simp)]
end Go.Proofs.Ytgjclggjkhapfaa
/- Values that bytes choose: what both sides compute (plain). -/
set_option linter.unusedVariables false
set_option linter.unusedSimpArgs false
namespace Go.Proofs.Ytgjclggjkhapfaa
open Go Go.Abs
/-- The n bytes from a position on; behind the end there are zeros. -/
def someA (b : List UInt8) (a n : Nat) : List UInt8 := (List.range n).map fun m => b.getD (a + m) 0
theorem someA_len (b : List UInt8) (a n : Nat) : (someA b a n).length = n := by simp [someA]
theorem someA_get {b : List UInt8} {a n m : Nat} (h : m < n) : (someA b a n).getD m 0 = b.getD (a + m) 0 := by
  unfold someA
  rw [List.getD_eq_getElem?_getD, List.getElem?_map, List.getElem?_range h]; rfl
theorem someA_snoc (b : List UInt8) (a n : Nat) : someA b a (n + 1) = someA b a n ++ [b.getD (a + n) 0] := by
  simp [someA, List.range_succ]
abbrev hd (b : List UInt8) (a : Nat) : Nat := (b.getD a 0).toNat
def smpF (rec : Int → Nat → V × Nat) (b : List UInt8) (f : Fd) (a : Nat) : V × Nat :=
  if f.kind = 2 then (bv (someA b a f.n.toNat), a + f.n.toNat)
  else if f.kind = 3 then (bv (someA b (a + 1) (hd b a % (f.n.toNat + 1))), a + 1 + hd b a % (f.n.toNat + 1))
  else if f.kind = 4 then (.mk [] (f.low + (hd b a % (f.high - f.low + 1).toNat : Nat)) [], a + 1)
  else if f.kind = 6 then (bv (someA b (a + 1) (f.low.toNat + hd b a % (f.high - f.low + 1).toNat)), a + 1 + (f.low.toNat + hd b a % (f.high - f.low + 1).toNat))
  else if f.kind = 5 then rec f.n a else (v0, a)
def smpL (rec : Int → Nat → V × Nat) (b : List UInt8) : List Fd → List V → Nat → V × Nat
  | [], vs, a => (.mk [] 0 vs, a)
  | f :: fs, vs, a => smpL rec b fs (vs ++ [(smpF rec b f a).1]) (smpF rec b f a).2
def smp0 (t : List Fm) (b : List UInt8) (i : Int) (a : Nat) : V × Nat := smpL (fun _ a => (v0, a)) b (t.getD i.toNat default).fields [] a
def smpT (t : List Fm) (b : List UInt8) (i : Int) (a : Nat) : V × Nat := smpL (smp0 t b) b (t.getD i.toNat default).fields [] a
def smpE (t : List Fm) (i : Int) (b : List UInt8) : V × Int := if errE t i ≠ 0 then (v0, errE t i) else ((smpT t b i 0).1, 0)
theorem mod_le (x : Nat) {n : Nat} (h : 0 < n) : x % n ≤ n - 1 := by have := Nat.mod_lt x h; omega
theorem smpF_le {rec : Int → Nat → V × Nat} {b : List UInt8} {f : Fd} {a M : Nat} (hf : FdOk f) (hM : 1001 ≤ M) (h5 : f.kind = 5 → (rec f.n a).2 ≤ a + M) : (smpF rec b f a).2 ≤ a + M := by
  obtain ⟨k1, k2, k3, k4, k5, k6, k7⟩ := hf
  have m1 := mod_le (hd b a) (n := f.n.toNat + 1) (by omega)
  have m2 := mod_le (hd b a) (n := (f.high - f.low + 1).toNat) (by omega)
  unfold smpF
  split
  · dsimp only; omega
  split
  · dsimp only; omega
  split
  · dsimp only; omega
  split
  · dsimp only; omega
  split
  · rename_i h; exact h5 h
  · dsimp only; omega
theorem smpL_le {rec : Int → Nat → V × Nat} {b : List UInt8} {M : Nat} : ∀ {fs : List Fd} {vs : List V} {a : Nat}, (∀ j, j < fs.length → ∀ a, (smpF rec b (fs.getD j default) a).2 ≤ a + M) → (smpL rec b fs vs a).2 ≤ a + M * fs.length
  | [], vs, a, _ => by rw [smpL]; simp
  | f :: fs, vs, a, h => by
    have h0 := h 0 (by simp) a
    simp only [List.getD_cons_zero] at h0
    have ih := smpL_le (rec := rec) (b := b) (M := M) (fs := fs) (vs := vs ++ [(smpF rec b f a).1]) (a := (smpF rec b f a).2) fun j hj a => by have := h (j + 1) (by simpa using hj) a; simpa using this
    rw [smpL, List.length_cons, Nat.mul_add]
    omega
theorem smp0_le {t : List Fm} {b : List UInt8} {i : Int} {a : Nat} (hp : Plain1 (t.getD i.toNat default).fields) : (smp0 t b i a).2 ≤ a + 6006 := by
  have := smpL_le (rec := fun _ a => (v0, a)) (b := b) (M := 1001) (fs := (t.getD i.toNat default).fields) (vs := []) (a := a) fun j hj a => smpF_le (hp.ok j hj).1 (Nat.le_refl _) fun h5 => absurd h5 (hp.ok j hj).2.1
  have hl := hp.len
  unfold smp0
  omega
theorem smpF_ok {rec : Int → Nat → V × Nat} {rec' : Int → V → Int} {b : List UInt8} {f : Fd} {a : Nat} (hf : FdOk f) (h5 : f.kind = 5 → rec' f.n (rec f.n a).1 = 0) : fvE rec' f (smpF rec b f a).1 = 0 := by
  obtain ⟨k1, k2, k3, k4, k5, k6, k7⟩ := hf
  have m1 := mod_le (hd b a) (n := f.n.toNat + 1) (by omega)
  have m2 := mod_le (hd b a) (n := (f.high - f.low + 1).toNat) (by omega)
  have key : ∀ v : V, fitsB f v = true → rngB f v = true → (f.kind = 5 → rec' f.n v = 0) → fvE rec' f v = 0 := by
    intro v h1 h2 h3
    rw [fvE, h1, h2, if_neg (by simp), if_neg (by simp)]
    split
    · rename_i h; exact h3 h
    · rfl
  unfold smpF
  obtain kd | kd | kd | kd | kd | kd : f.kind = 1 ∨ f.kind = 2 ∨ f.kind = 3 ∨ f.kind = 4 ∨ f.kind = 5 ∨ f.kind = 6 := by omega
  · rw [if_neg (by omega), if_neg (by omega), if_neg (by omega), if_neg (by omega), if_neg (by omega)]
    refine key _ ?_ ?_ fun h => by omega
    · simp [fitsB, kd, zeroB, v0, V.bytes, V.number, V.kids]
    · simp [rngB, kd]
  · rw [if_pos kd]
    refine key _ ?_ ?_ fun h => by omega
    · simp [fitsB, kd, V.number, V.kids]
    · unfold rngB; rw [if_pos kd]; simp only [V.bytes, decide_eq_true_eq, someA_len]; omega
  · rw [if_neg (by omega), if_pos kd]
    refine key _ ?_ ?_ fun h => by omega
    · simp [fitsB, kd, V.number, V.kids]
    · unfold rngB; rw [if_neg (by omega), if_pos kd]; simp only [V.bytes, decide_eq_true_eq, someA_len]; omega
  · rw [if_neg (by omega), if_neg (by omega), if_pos kd]
    refine key _ ?_ ?_ fun h => by omega
    · simp [fitsB, kd, V.bytes, V.kids]
    · unfold rngB; rw [if_neg (by omega), if_neg (by omega), if_pos kd]
      show (decide (f.low ≤ f.low + ((hd b a % (f.high - f.low + 1).toNat : Nat) : Int)) && decide (f.low + ((hd b a % (f.high - f.low + 1).toNat : Nat) : Int) ≤ f.high)) = true
      simp only [Bool.and_eq_true, decide_eq_true_eq]; omega
  · rw [if_neg (by omega), if_neg (by omega), if_neg (by omega), if_neg (by omega), if_pos kd]
    refine key _ ?_ ?_ h5
    · simp [fitsB, kd]
    · simp [rngB, kd]
  · rw [if_neg (by omega), if_neg (by omega), if_neg (by omega), if_pos kd]
    refine key _ ?_ ?_ fun h => by omega
    · simp [fitsB, kd, V.number, V.kids]
    · unfold rngB; rw [if_neg (by omega), if_neg (by omega), if_neg (by omega), if_pos kd]; simp only [V.bytes, Bool.and_eq_true, decide_eq_true_eq, someA_len]; omega
theorem smpL_ok {rec : Int → Nat → V × Nat} {rec' : Int → V → Int} {b : List UInt8} : ∀ {fs : List Fd} {acc : List V} {a : Nat}, (∀ j, j < fs.length → ∀ a, fvE rec' (fs.getD j default) (smpF rec b (fs.getD j default) a).1 = 0) →
    ∃ vs : List V, vs.length = fs.length ∧ (smpL rec b fs acc a).1 = .mk [] 0 (acc ++ vs) ∧ kidsE rec' fs vs = 0
  | [], acc, a, _ => ⟨[], rfl, by rw [smpL, List.append_nil], rfl⟩
  | f :: fs, acc, a, h => by
    have h0 := h 0 (by simp) a
    simp only [List.getD_cons_zero] at h0
    obtain ⟨vs, e1, e2, e3⟩ := smpL_ok (rec := rec) (rec' := rec') (b := b) (fs := fs) (acc := acc ++ [(smpF rec b f a).1]) (a := (smpF rec b f a).2) fun j hj a => by have := h (j + 1) (by simpa using hj) a; simpa using this
    refine ⟨(smpF rec b f a).1 :: vs, by simp [e1], ?_, ?_⟩
    · rw [smpL, e2, List.append_assoc]; rfl
    · rw [kidsE, h0, if_neg (by simp)]; exact e3
theorem valG_of {rec : Int → V → Int} {t : List Fm} {i : Int} {vs : List V} (h1 : vs.length = (t.getD i.toNat default).fields.length) (h2 : kidsE rec (t.getD i.toNat default).fields vs = 0) : valG rec t i (.mk [] 0 vs) = 0 := by
  unfold valG
  rw [if_neg (by simp [V.bytes, V.number]), if_neg (by simpa [V.kids] using h1)]
  exact h2
theorem smp0_ok {t : List Fm} {b : List UInt8} {i : Int} {a : Nat} (hp : Plain1 (t.getD i.toNat default).fields) : val0 t i (smp0 t b i a).1 = 0 := by
  obtain ⟨vs, e1, e2, e3⟩ := smpL_ok (rec := fun _ a => (v0, a)) (rec' := fun _ _ => 0) (b := b) (fs := (t.getD i.toNat default).fields) (acc := []) (a := a) fun j hj a => smpF_ok (hp.ok j hj).1 fun h5 => rfl
  rw [smp0, e2, List.nil_append]
  exact valG_of e1 e3
theorem smpT_ok {t : List Fm} {b : List UInt8} {i : Int} {a : Nat} (hf : Fds t (t.getD i.toNat default).fields) : valT t i (smpT t b i a).1 = 0 := by
  obtain ⟨vs, e1, e2, e3⟩ := smpL_ok (rec := smp0 t b) (rec' := val0 t) (b := b) (fs := (t.getD i.toNat default).fields) (acc := []) (a := a) fun j hj a => smpF_ok (hf.ok j hj) fun h5 => smp0_ok (hf.nest j hj h5).2
  rw [smpT, e2, List.nil_append]
  exact valG_of e1 e3
/-- The place of a number in a list. -/
def idxI (x : Int) : List Int → Int → Int
  | [], _ => -1
  | y :: l, k => if x = y then k else idxI x l (k + 1)
theorem idxI_mem {x : Int} : ∀ {l : List Int} {k : Int}, x ∈ l → 0 ≤ k → 0 ≤ idxI x l k
  | [], k, h, _ => by simp at h
  | y :: l, k, h, hk => by
    rw [idxI]
    split
    · exact hk
    · rename_i hne
      rcases List.mem_cons.1 h with h | h
      · exact absurd h hne
      · exact idxI_mem h (by omega)
theorem whichL_mem {t : List Fm} {s : List UInt8} : ∀ {n k : Nat} {out : List Int}, (∀ x, x ∈ out → x ∈ whichL t s n k out) ∧ ∀ j : Nat, k ≤ j → j < k + n → (decE t j s).2.2 = 0 → (j : Int) ∈ whichL t s n k out
  | 0, k, out => ⟨fun x h => h, fun j h1 h2 => by omega⟩
  | n + 1, k, out => by
    obtain ⟨i1, i2⟩ := whichL_mem (t := t) (s := s) (n := n) (k := k + 1) (out := if (decE t k s).2.2 = 0 then out ++ [(k : Int)] else out)
    rw [whichL]
    refine ⟨fun x h => i1 x (by split; exact List.mem_append_left _ h; exact h), fun j h1 h2 h3 => ?_⟩
    by_cases e : j = k
    · subst e
      exact i1 _ (by rw [if_pos h3]; simp)
    · exact i2 j (by omega) (by omega) h3
theorem which_mem {t : List Fm} {s : List UInt8} {i : Int} (h0 : 0 ≤ i) (h1 : i < t.length) (h : (decE t i s).2.2 = 0) : i ∈ whichE t s := by
  have hc : ((i.toNat : Nat) : Int) = i := by omega
  have := (whichL_mem (t := t) (s := s) (n := t.length) (k := 0) (out := [])).2 i.toNat (by omega) (by omega) (by rw [hc]; exact h)
  rw [hc] at this
  exact this
end Go.Proofs.Ytgjclggjkhapfaa
/- Contracts: values that bytes choose, as codec chooses them. -/
set_option linter.unusedVariables false
set_option linter.unusedSimpArgs false
namespace Go.Proofs.Ytgjclggjkhapfaa
open Go Go.Abs
abbrev cb (b : List UInt8) (a : Nat) : List C := [.sl 1 (bytesR (b.drop a))]
theorem cb_eq {b c : List UInt8} (h : b = c) : [C.sl 1 (bytesR b)] = [C.sl 1 (bytesR c)] := by rw [h]
theorem xu_eq {a b : Int} (h : a = b) : xu a = xu b := by rw [h]
theorem cnext_spec (b : List UInt8) (a : Nat) : Ctr sys 74 [pp] [cb b a] (xu (hd b a)) none [cb b (a + 1)] := by
  have hl := bytesR_len (b.drop a)
  have hbl : (b.drop a).length = b.length - a := by simp
  refine spec_intro Try.func74 rfl rfl rfl rfl rfl rfl ?_
  refine awp_seq (awp_region ?_)
  refine al_pure rfl rfl rfl (pure_assign rfl gU) ?_
  refine al_nil ?_
  refine awp_seq ?_
  refine awp_seq (awp_region ?_)
  refine al_pure rfl rfl rfl (pure_move rfl gU) ?_
  refine al_pure rfl rfl rfl (pure_nilCheck rfl gU) ?_
  refine al_pure rfl rfl rfl (pure_fieldPtr rfl gU rfl rfl) ?_
  refine al_pure rfl rfl rfl (pure_loadBox rfl gU rfl rfl rfl rfl) ?_
  refine al_lenSl rfl rfl rfl rfl rfl gU rfl rfl ?_ (fun hh => by simp at hh); intro hlen
  refine al_pure rfl rfl rfl (pure_cmp rfl rfl gU gU rfl) ?_
  refine al_nil ?_
  refine awp_sub (s := { t := [(0, _, _), (9, _, _)], bx := [((.o 0), _)], ow := [] }) (sub_mk (⟨sx rfl, ⟨sx rfl, trivial⟩⟩) (⟨sx rfl, trivial⟩) trivial) ?_
  refine awp_cond rfl (fun hc => ?_) (fun hc => ?_)
  · try simp only [nn, Fd.rows_len, Fm.rows_len, V.rows_len, bytesR_len, arrR_len] at hc
    refine awp_seq (awp_region ?_)
    refine al_pure rfl rfl rfl (pure_assign rfl gU) ?_
    refine al_nil ?_
    refine awp_ret ?_
    repeat (first | refine tR ?_ | refine bR ?_)
    refine ret_ok rfl ?_ (⟨⟨_, rfl, ?_⟩, trivial⟩)
    · exact xu_eq (by
        have : b.getD a 0 = 0 := by rw [List.getD_eq_getElem?_getD, List.getElem?_eq_none (by omega)]; rfl
        rw [hd, this]; rfl)
    · have h1 : b.drop a = [] := List.drop_of_length_le (by omega)
      have h2 : b.drop (a + 1) = [] := List.drop_of_length_le (by omega)
      exact cb_eq (by rw [h1, h2])
  · try simp only [nn, Fd.rows_len, Fm.rows_len, V.rows_len, bytesR_len, arrR_len] at hc
    refine awp_skip ?_
    refine awp_seq (awp_region ?_)
    refine al_pure rfl rfl rfl (pure_move rfl gU) ?_
    refine al_pure rfl rfl rfl (pure_nilCheck rfl gU) ?_
    refine al_pure rfl rfl rfl (pure_fieldPtr rfl gU rfl rfl) ?_
    refine al_pure rfl rfl rfl (pure_loadBox rfl gU rfl rfl rfl rfl) ?_
    refine al_pure rfl rfl rfl (pure_indexAddr (j := 0) rfl rfl gU gU rfl rfl (by first | omega | (simp at hh; omega)) (fun hh => bytesR_at (by first | omega | (simp at hh; omega)))) ?_
    refine al_pure rfl rfl rfl (pure_loadRo rfl gU rfl rfl rfl) ?_
    refine al_pure rfl rfl rfl (pure_assign rfl gU) ?_
    refine al_nil ?_
    refine awp_sub (s := { t := [(0, _, _), (3, _, _)], bx := [((.o 0), _)], ow := [] }) (sub_mk (⟨sx rfl, ⟨sx rfl, trivial⟩⟩) (⟨sx rfl, trivial⟩) trivial) ?_
    refine awp_seq (awp_region ?_)
    refine al_pure rfl rfl rfl (pure_move rfl gU) ?_
    refine al_pure rfl rfl rfl (pure_move rfl gU) ?_
    refine al_pure rfl rfl rfl (pure_nilCheck rfl gU) ?_
    refine al_pure rfl rfl rfl (pure_fieldPtr rfl gU rfl rfl) ?_
    refine al_pure rfl rfl rfl (pure_loadBox rfl gU rfl rfl rfl rfl) ?_
    refine al_pure rfl rfl rfl (pure_slice (l := 1) rfl gU rfl rfl (fun _ => ⟨_, _, _, rfl, gU, by first | omega | (simp at hh; omega)⟩) (fun _ => rfl) (fun hh => by first | omega | (simp at hh; omega)) (fun hh => by first | omega | (simp at hh; omega))) ?_
    refine al_pure rfl rfl rfl (pure_nilCheck rfl gU) ?_
    refine al_pure rfl rfl rfl (pure_fieldPtr rfl gU rfl rfl) ?_
    refine al_do rfl (does_store rfl rfl rfl rfl rfl rfl rfl) ?_
    refine al_nil ?_
    refine awp_sub (s := { t := [(3, _, _)], bx := [((.o 0), _)], ow := [] }) (sub_mk (⟨sx rfl, trivial⟩) (⟨sx rfl, trivial⟩) trivial) ?_
    refine awp_seq (awp_region ?_)
    refine al_pure rfl rfl rfl (pure_move rfl gU) ?_
    refine al_pure rfl rfl rfl (pure_assign rfl gU) ?_
    refine al_nil ?_
    refine awp_ret ?_
    repeat (first | refine tR ?_ | refine bR ?_)
    refine ret_ok rfl ?_ (⟨⟨_, rfl, ?_⟩, trivial⟩)
    · exact xu_eq (by rw [hd, getD_drop]; rfl)
    · refine congrArg (fun z => [C.sl 1 z]) ?_
      simp only [bytesR]
      first
        | rw [List.take_of_length_le (by simp), ← List.map_drop, List.drop_drop]
        | rw [← List.map_drop, List.drop_drop]
theorem someA_rows {b : List UInt8} {a n k : Nat} (h : n ≤ k) : arrR .u8 (fun m => if m < k then (hd b (a + m) : Int) else 0) n = bytesR (someA b a n) := by
  apply List.ext_getElem?
  intro j
  by_cases hj : j < n
  · rw [arrR_at hj, bytesR_at (by rw [someA_len]; exact hj), someA_get hj, if_pos (by omega)]
  · rw [List.getElem?_eq_none (by rw [arrR_len]; omega), List.getElem?_eq_none (by rw [bytesR_len, someA_len]; omega)]
theorem csome_spec (b : List UInt8) (a n : Nat) (ni : Int) (hn : ni = n) (hn2 : n ≤ 5000) : Ctr sys 73 [pp, xi ni] [cb b a] (xs (someA b a n)) none [cb b (a + n)] := by
  subst hn
  refine spec_intro Try.func73 rfl rfl rfl rfl rfl rfl ?_
  refine awp_seq (awp_region ?_)
  refine al_pure rfl rfl rfl (pure_assign rfl gU) ?_
  refine al_nil ?_
  refine awp_seq (awp_region ?_)
  refine al_pure rfl rfl rfl (pure_move rfl gU) ?_
  refine al_do rfl (does_makeArr (n := n) rfl rfl rfl rfl rfl rfl rfl rfl (by first | omega | (simp at hh; omega)) (by first | omega | (simp at hh; omega)) (by first | omega | (simp at hh; omega))) ?_
  refine al_pure rfl rfl rfl (pure_assign rfl gU) ?_
  refine al_nil ?_
  refine awp_seq ?_
  refine awp_seq (awp_region ?_)
  refine al_pure rfl rfl rfl (pure_move rfl gU) ?_
  refine al_pure rfl rfl rfl (pure_lenMs rfl gU rfl rfl) ?_
  refine al_pure rfl rfl rfl (pure_move rfl gU) ?_
  refine al_nil ?_
  refine awp_sub (s := { t := [(0, _, _), (5, _, _), (10, _, _), (11, _, _)], bx := [((.l 8), _), ((.o 0), _)], ow := [] }) (sub_mk (⟨sx rfl, ⟨sx rfl, ⟨sx rfl, ⟨sx rfl, trivial⟩⟩⟩⟩) (⟨sx rfl, ⟨sx rfl, trivial⟩⟩) trivial) ?_
  refine awp_block ?_
  refine awp_for (ι := Nat) { t := [(0, _, _), (5, _, _), (10, _, _)], bx := [], ow := [] } (fun k => [(11, true, xi (k : Int))]) (fun k => [((.l 8), arr .u8 (fun m => if m < k then (hd b (a + m) : Int) else 0) n), ((.o 0), cb b (a + k))]) (fun k => k ≤ n) (fun k => n - k) (0) (by simp) (sub_mk (⟨sx rfl, ⟨sx rfl, ⟨sx rfl, ⟨sx rfl, trivial⟩⟩⟩⟩) (⟨⟨_, rfl, arr_ext fun m _ => by (try split) <;> first | rfl | omega⟩, ⟨sx rfl, trivial⟩⟩) trivial) ?_
  intro k hok
  dsimp only [List.cons_append, List.nil_append]
  refine awp_seq (awp_region ?_)
  refine al_pure rfl rfl rfl (pure_cmp rfl rfl gU gU rfl) ?_
  refine al_nil ?_
  refine awp_seq ?_
  refine awp_cond rfl (fun hc => ?_) (fun hc => ?_)
  · try simp only [nn, Fd.rows_len, Fm.rows_len, V.rows_len, bytesR_len, arrR_len] at hc
    refine awp_skip ?_
    refine awp_seq ?_
    refine awp_block ?_
    refine awp_seq (awp_region ?_)
    refine al_pure rfl rfl rfl (pure_move rfl gU) ?_
    refine al_pure rfl rfl rfl (pure_assign rfl gU) ?_
    refine al_nil ?_
    refine awp_region ?_
    refine al_pure rfl rfl rfl (pure_move rfl gU) ?_
    refine al_pure rfl rfl rfl (pure_move rfl gU) ?_
    refine al_pure rfl rfl rfl (pure_move rfl gU) ?_
    refine al_callB1 (.o 0) rfl rfl rfl rfl rfl rfl (cnext_spec b (a + k)) rfl (by rfl) (by rfl) rfl rfl rfl ?_
    refine al_pure rfl rfl rfl (pure_indexMs (j := k) rfl rfl gU gU rfl rfl (by first | rfl | first | omega | (simp at hh; omega)) (fun hh => by first | omega | (simp at hh; omega))) ?_
    refine al_do rfl (does_storeArr rfl rfl rfl rfl rfl (by first | omega | (simp at hh; omega)) rfl) ?_
    refine al_nil ?_
    refine awp_sub (s := { t := [(0, _, _), (5, _, _), (10, _, _), (11, _, _)], bx := [((.l 8), _), ((.o 0), _)], ow := [] }) (sub_mk (⟨sx rfl, ⟨sx rfl, ⟨sx rfl, ⟨sx rfl, trivial⟩⟩⟩⟩) (⟨sx rfl, ⟨sx rfl, trivial⟩⟩) trivial) ?_
    refine awp_region ?_
    refine al_pure rfl rfl rfl (pure_arith rfl rfl gU gU rfl (IntWalk.i64_in _ (by omega))) ?_
    refine al_pure rfl rfl rfl (pure_move rfl gU) ?_
    refine al_nil ?_
    refine ⟨k + 1, ?_, ?_, sub_mk (⟨⟨_, rfl, ?_⟩, ⟨sx rfl, ⟨sx rfl, ⟨sx rfl, trivial⟩⟩⟩⟩) (⟨⟨_, rfl, ?_⟩, ⟨⟨_, rfl, ?_⟩, trivial⟩⟩) trivial⟩
    · omega
    · omega
    · rfl
    · refine arr_ext fun m _ => ?_
      unfold upd
      dsimp only
      by_cases q : m = k
      · subst q; rw [if_pos rfl, if_pos (by omega)]
      · rw [if_neg q]
        by_cases q2 : m < k
        · rw [if_pos q2, if_pos (by omega)]
        · rw [if_neg q2, if_neg (by omega)]
    · rfl
  · try simp only [nn, Fd.rows_len, Fm.rows_len, V.rows_len, bytesR_len, arrR_len] at hc
    have hk : k = n := by omega
    subst hk
    refine awp_exit ?_
    repeat (first | refine thenS_exit ?_ | refine blockS_hit ?_ | refine blockS_miss rfl ?_)
    refine awp_seq (awp_region ?_)
    refine al_sub (s := { t := [(5, _, _)], bx := [((.l 8), _), ((.o 0), _)], ow := [] }) (sub_mk (⟨sx rfl, trivial⟩) (⟨sx rfl, ⟨sx rfl, trivial⟩⟩) trivial) ?_
    refine al_freezeArr 5 8 rfl rfl (by first | omega | (simp at hh; omega)) rfl ?_
    refine al_pure rfl rfl rfl (pure_move rfl gU) ?_
    refine al_pure rfl rfl rfl (pure_bytesStr (l := someA b a k) rfl (by exact someA_rows (Nat.le_refl _)) gU Try.underlying48 Try.underlying5 Try.underlying9) ?_
    refine al_pure rfl rfl rfl (pure_assign rfl gU) ?_
    refine al_nil ?_
    refine awp_ret ?_
    repeat (first | refine tR ?_ | refine bR ?_)
    refine ret_ok rfl ?_ (⟨⟨_, rfl, ?_⟩, trivial⟩)
    · rfl
    · rfl
theorem mod_int {x : Nat} {n : Int} (h : 0 ≤ n) : (x : Int) % (n + 1) = ((x % (n.toNat + 1) : Nat) : Int) := by
  rw [Int.natCast_emod]; congr 1; omega
theorem mod_int2 {x : Nat} {l h : Int} (hlh : l ≤ h) : (x : Int) % (h - l + 1) = ((x % (h - l + 1).toNat : Nat) : Int) := by
  rw [Int.natCast_emod]; congr 1; omega
theorem kid_eq {vs : List V} {v : V} {cs : List C} (h : cs = v.cells) : [C.s [], C.i .i64 0, C.sl 3 (V.rows vs ++ [cs])] = [C.s [], C.i .i64 0, C.sl 3 (V.rows (vs ++ [v]))] := by
  rw [h, V.rows_snoc]
set_option maxHeartbeats 1000000 in
theorem csample_gen (t : List Fm) (i : Int) (b : List UInt8) (a0 : Nat) (rec : Int → Nat → V × Nat) (hi : 0 ≤ i ∧ i < t.length) (hl6 : (t.getD i.toNat default).fields.length ≤ 6)
    (hfd : ∀ k, k < (t.getD i.toNat default).fields.length → FdOk ((t.getD i.toNat default).fields.getD k default))
    (hrec : ∀ k, k < (t.getD i.toNat default).fields.length → ((t.getD i.toNat default).fields.getD k default).kind = 5 → ∀ a : Nat, Ctr sys 47 [pp, xtab t, xi ((t.getD i.toNat default).fields.getD k default).n] [cb b a] (xv (rec ((t.getD i.toNat default).fields.getD k default).n a).1) none [cb b (rec ((t.getD i.toNat default).fields.getD k default).n a).2]) :
    Ctr sys 47 [pp, xtab t, xi i] [cb b a0] (xv (smpL rec b (t.getD i.toNat default).fields [] a0).1) none [cb b (smpL rec b (t.getD i.toNat default).fields [] a0).2] := by
  have hrl := Fm.rows_len t
  have hrf := Fd.rows_len (t.getD i.toNat default).fields
  refine spec_intro Try.func47 rfl rfl rfl rfl rfl rfl ?_
  refine awp_seq (awp_region ?_)
  refine al_do rfl (does_alloc rfl rfl rfl) ?_
  refine al_nil ?_
  refine awp_seq (awp_region ?_)
  refine al_do rfl (does_allocX rfl rfl rfl rfl) ?_
  refine al_nil ?_
  refine awp_seq ?_
  refine awp_seq (awp_region ?_)
  refine al_pure rfl rfl rfl (pure_move rfl gU) ?_
  refine al_pure rfl rfl rfl (pure_move rfl gU) ?_
  refine al_pure rfl rfl rfl (pure_indexAddr (j := i.toNat) rfl rfl gU gU rfl rfl (by first | omega | (simp at hh; omega)) (fun hh => Fm.rows_at (by first | omega | (simp at hh; omega)))) ?_
  refine al_pure rfl rfl rfl (pure_fieldRo rfl gU rfl rfl) ?_
  refine al_pure rfl rfl rfl (pure_loadRo rfl gU rfl rfl rfl) ?_
  refine al_lenSl rfl rfl rfl rfl rfl gU rfl rfl ?_ (fun hh => by simp at hh); intro hlen
  refine al_pure rfl rfl rfl (pure_move rfl gU) ?_
  refine al_nil ?_
  refine awp_sub (s := { t := [(0, _, _), (1, _, _), (6, _, _), (7, _, _), (15, _, _), (16, _, _), (17, _, _)], bx := [((.l 6), _), ((.l 7), _), ((.o 0), _)], ow := [] }) (sub_mk (⟨sx rfl, ⟨sx rfl, ⟨sx rfl, ⟨sx rfl, ⟨sx rfl, ⟨sx rfl, ⟨sx rfl, trivial⟩⟩⟩⟩⟩⟩⟩) (⟨sx rfl, ⟨sx rfl, ⟨sx rfl, trivial⟩⟩⟩) trivial) ?_
  refine awp_block ?_
  refine awp_own (.l 7) 2 3 rfl rfl rfl ?_
  refine awp_for (ι := Nat × List V × Nat) { t := [(0, _, _), (1, _, _), (6, _, _), (7, _, _), (15, _, _), (16, _, _)], bx := [((.l 6), _)], ow := [((.b (.l 7) 2), _)] } (fun p => [(17, true, xi (p.1 : Int))]) (fun p => [((.l 7), [.s [], .i .i64 0, .sl 3 (V.rows p.2.1)]), ((.o 0), cb b p.2.2)]) (fun p => p.1 ≤ (t.getD i.toNat default).fields.length ∧ p.2.1.length ≤ p.1 ∧ smpL rec b ((t.getD i.toNat default).fields.drop p.1) p.2.1 p.2.2 = smpL rec b (t.getD i.toNat default).fields [] a0) (fun p => (t.getD i.toNat default).fields.length - p.1) ((0, [], a0)) (⟨by simp, by simp, rfl⟩) (sub_mk (⟨sx rfl, ⟨sx rfl, ⟨sx rfl, ⟨sx rfl, ⟨sx rfl, ⟨sx rfl, ⟨sx rfl, trivial⟩⟩⟩⟩⟩⟩⟩) (⟨sx rfl, ⟨sx rfl, ⟨sx rfl, trivial⟩⟩⟩) (⟨rfl, trivial⟩)) ?_
  intro p hok
  dsimp only [List.cons_append, List.nil_append] at *
  obtain ⟨k, vs, a⟩ := p
  dsimp only at hok ⊢
  obtain ⟨hk, hvk, hinv⟩ := hok
  have hvr := V.rows_len vs
  refine awp_seq (awp_region ?_)
  refine al_pure rfl rfl rfl (pure_cmp rfl rfl gU gU rfl) ?_
  refine al_nil ?_
  refine awp_seq ?_
  refine awp_cond rfl (fun hc => ?_) (fun hc => ?_)
  · try simp only [nn, Fd.rows_len, Fm.rows_len, V.rows_len, bytesR_len, arrR_len] at hc
    have hre := hrec k (by omega)
    obtain ⟨k1, k2, k3, k4, k5, k6, k7⟩ := hfd k (by omega)
    rw [drop_getD (l := (t.getD i.toNat default).fields) (by omega), smpL] at hinv
    have hu : hd b a < 256 := (b.getD a 0).toNat_lt
    have m1 : (0 : Int) ≤ (hd b a : Int) % (((t.getD i.toNat default).fields.getD k default).n + 1) ∧ (hd b a : Int) % (((t.getD i.toNat default).fields.getD k default).n + 1) ≤ 15 := by
      have := mod_le (hd b a) (n := ((t.getD i.toNat default).fields.getD k default).n.toNat + 1) (by omega)
      rw [mod_int k3.1]; omega
    have m2 : (0 : Int) ≤ (hd b a : Int) % (((t.getD i.toNat default).fields.getD k default).high - ((t.getD i.toNat default).fields.getD k default).low + 1) ∧ (hd b a : Int) % (((t.getD i.toNat default).fields.getD k default).high - ((t.getD i.toNat default).fields.getD k default).low + 1) ≤ ((t.getD i.toNat default).fields.getD k default).high - ((t.getD i.toNat default).fields.getD k default).low := by
      have := mod_le (hd b a) (n := (((t.getD i.toNat default).fields.getD k default).high - ((t.getD i.toNat default).fields.getD k default).low + 1).toNat) (by omega)
      rw [mod_int2 k6]; omega
    have mn1 : hd b a % (((t.getD i.toNat default).fields.getD k default).n.toNat + 1) ≤ 15 := by have := mod_le (hd b a) (n := ((t.getD i.toNat default).fields.getD k default).n.toNat + 1) (by omega); omega
    have mn2 : hd b a % (((t.getD i.toNat default).fields.getD k default).high - ((t.getD i.toNat default).fields.getD k default).low + 1).toNat ≤ 1000 := by have := mod_le (hd b a) (n := (((t.getD i.toNat default).fields.getD k default).high - ((t.getD i.toNat default).fields.getD k default).low + 1).toNat) (by omega); omega
    refine awp_skip ?_
    refine awp_seq ?_
    refine awp_block ?_
    refine awp_seq (awp_region ?_)
    refine al_pure rfl rfl rfl (pure_indexAddr rfl rfl gU gU rfl rfl rfl (fun hh => Fd.rows_at (by first | omega | (simp at hh; omega)))) ?_
    refine al_pure rfl rfl rfl (pure_loadRoRow rfl gU rfl rfl rfl rfl) ?_
    refine al_do rfl (does_alloc rfl rfl rfl) ?_
    refine al_do rfl (does_store rfl rfl rfl rfl rfl rfl rfl) ?_
    refine al_nil ?_
    refine awp_seq (awp_region ?_)
    refine al_do rfl (does_alloc rfl rfl rfl) ?_
    refine al_nil ?_
    refine awp_sub (s := { t := [(0, _, _), (1, _, _), (6, _, _), (7, _, _), (9, _, _), (10, _, _), (15, _, _), (16, _, _), (17, _, _)], bx := [((.l 10), _), ((.l 6), _), ((.l 7), _), ((.l 9), _), ((.o 0), _)], ow := [((.b (.l 7) 2), _)] }) (sub_mk (⟨sx rfl, ⟨sx rfl, ⟨sx rfl, ⟨sx rfl, ⟨sx rfl, ⟨sx rfl, ⟨sx rfl, ⟨sx rfl, ⟨sx rfl, trivial⟩⟩⟩⟩⟩⟩⟩⟩⟩) (⟨sx rfl, ⟨sx rfl, ⟨sx rfl, ⟨sx rfl, ⟨sx rfl, trivial⟩⟩⟩⟩⟩) (⟨rfl, trivial⟩)) ?_
    refine awp_seq ?_
    refine awp_seq (awp_region ?_)
    refine al_pure rfl rfl rfl (pure_fieldPtr rfl gU rfl rfl) ?_
    refine al_pure rfl rfl rfl (pure_loadBox rfl gU rfl rfl rfl rfl) ?_
    refine al_nil ?_
    refine awp_block ?_
    refine awp_seq (awp_region ?_)
    refine al_pure rfl rfl rfl (pure_cmp rfl rfl gU gU rfl) ?_
    refine al_pure rfl rfl rfl (pure_assign rfl gU) ?_
    refine al_nil ?_
    refine awp_cond rfl (fun hcd => ?_) (fun hcd => ?_)
    · try simp only [nn, Fd.rows_len, Fm.rows_len, V.rows_len, bytesR_len, arrR_len] at hcd
      have hF : smpF rec b ((t.getD i.toNat default).fields.getD k default) a = (bv (someA b a ((t.getD i.toNat default).fields.getD k default).n.toNat), a + ((t.getD i.toNat default).fields.getD k default).n.toNat) := by unfold smpF; rw [if_pos hcd]
      refine awp_region ?_
      refine al_pure rfl rfl rfl (pure_move rfl gU) ?_
      refine al_pure rfl rfl rfl (pure_fieldPtr rfl gU rfl rfl) ?_
      refine al_pure rfl rfl rfl (pure_loadBox rfl gU rfl rfl rfl rfl) ?_
      refine al_callB1 (.o 0) rfl rfl rfl rfl rfl rfl (csome_spec b a ((t.getD i.toNat default).fields.getD k default).n.toNat ((t.getD i.toNat default).fields.getD k default).n (by omega) (by omega)) rfl (by rfl) (by rfl) rfl rfl rfl ?_
      refine al_pure rfl rfl rfl (pure_fieldPtr rfl gU rfl rfl) ?_
      refine al_do rfl (does_store rfl rfl rfl rfl rfl rfl rfl) ?_
      refine al_nil ?_
      refine awp_sub (s := { t := [(0, _, _), (1, _, _), (6, _, _), (7, _, _), (10, _, _), (15, _, _), (16, _, _), (17, _, _)], bx := [((.l 10), _), ((.l 6), _), ((.l 7), _), ((.o 0), _)], ow := [((.b (.l 7) 2), _)] }) (sub_mk (⟨sx rfl, ⟨sx rfl, ⟨sx rfl, ⟨sx rfl, ⟨sx rfl, ⟨sx rfl, ⟨sx rfl, ⟨sx rfl, trivial⟩⟩⟩⟩⟩⟩⟩⟩) (⟨sx rfl, ⟨sx rfl, ⟨sx rfl, ⟨sx rfl, trivial⟩⟩⟩⟩) (⟨rfl, trivial⟩)) ?_
      refine awp_region ?_
      refine al_pure rfl rfl rfl (pure_fieldPtr rfl gU rfl rfl) ?_
      refine al_do rfl (does_loadTake rfl rfl rfl rfl rfl rfl rfl) ?_
      refine al_pure rfl rfl rfl (pure_loadBoxRow rfl gU rfl rfl rfl rfl rfl) ?_
      refine al_buildSlice (xs := [_]) rfl rfl rfl rfl rfl rfl rfl rfl rfl gU rfl ?_
      refine al_do rfl (does_append rfl rfl rfl rfl rfl rfl rfl (by simp [V.rows_len]; omega) (by simp [V.rows_len]; omega)) ?_
      refine al_pure rfl rfl rfl (pure_fieldPtr rfl gU rfl rfl) ?_
      refine al_do rfl (does_storeOwn rfl rfl rfl rfl rfl rfl rfl) ?_
      refine al_nil ?_
      refine awp_sub (s := { t := [(0, _, _), (1, _, _), (6, _, _), (7, _, _), (15, _, _), (16, _, _), (17, _, _)], bx := [((.l 6), _), ((.l 7), _), ((.o 0), _)], ow := [((.b (.l 7) 2), _)] }) (sub_mk (⟨sx rfl, ⟨sx rfl, ⟨sx rfl, ⟨sx rfl, ⟨sx rfl, ⟨sx rfl, ⟨sx rfl, trivial⟩⟩⟩⟩⟩⟩⟩) (⟨sx rfl, ⟨sx rfl, ⟨sx rfl, trivial⟩⟩⟩) (⟨rfl, trivial⟩)) ?_
      refine awp_region ?_
      refine al_pure rfl rfl rfl (pure_arith rfl rfl gU gU rfl (IntWalk.i64_in _ (by omega))) ?_
      refine al_pure rfl rfl rfl (pure_move rfl gU) ?_
      refine al_nil ?_
      refine ⟨(k + 1, vs ++ [(smpF rec b ((t.getD i.toNat default).fields.getD k default) a).1], (smpF rec b ((t.getD i.toNat default).fields.getD k default) a).2), ?_, ?_, sub_mk (⟨⟨_, rfl, ?_⟩, ⟨sx rfl, ⟨sx rfl, ⟨sx rfl, ⟨sx rfl, ⟨sx rfl, ⟨sx rfl, trivial⟩⟩⟩⟩⟩⟩⟩) (⟨⟨_, rfl, ?_⟩, ⟨⟨_, rfl, ?_⟩, ⟨sx rfl, trivial⟩⟩⟩) (⟨rfl, trivial⟩)⟩
      · exact ⟨by dsimp only; omega, by simp; omega, hinv⟩
      · dsimp only; omega
      · rfl
      · exact kid_eq (by rw [hF]; rfl)
      · rw [hF]
    · try simp only [nn, Fd.rows_len, Fm.rows_len, V.rows_len, bytesR_len, arrR_len] at hcd
      refine awp_seq (awp_region ?_)
      refine al_pure rfl rfl rfl (pure_cmp rfl rfl gU gU rfl) ?_
      refine al_pure rfl rfl rfl (pure_assign rfl gU) ?_
      refine al_nil ?_
      refine awp_sub (s := { t := [(0, _, _), (1, _, _), (6, _, _), (7, _, _), (9, _, _), (10, _, _), (15, _, _), (16, _, _), (17, _, _), (22, _, _), (30, _, _)], bx := [((.l 10), _), ((.l 6), _), ((.l 7), _), ((.l 9), _), ((.o 0), _)], ow := [((.b (.l 7) 2), _)] }) (sub_mk (⟨sx rfl, ⟨sx rfl, ⟨sx rfl, ⟨sx rfl, ⟨sx rfl, ⟨sx rfl, ⟨sx rfl, ⟨sx rfl, ⟨sx rfl, ⟨sx rfl, ⟨sx rfl, trivial⟩⟩⟩⟩⟩⟩⟩⟩⟩⟩⟩) (⟨sx rfl, ⟨sx rfl, ⟨sx rfl, ⟨sx rfl, ⟨sx rfl, trivial⟩⟩⟩⟩⟩) (⟨rfl, trivial⟩)) ?_
      refine awp_cond rfl (fun hce => ?_) (fun hce => ?_)
      · try simp only [nn, Fd.rows_len, Fm.rows_len, V.rows_len, bytesR_len, arrR_len] at hce
        have hF : smpF rec b ((t.getD i.toNat default).fields.getD k default) a = (bv (someA b (a + 1) (hd b a % (((t.getD i.toNat default).fields.getD k default).n.toNat + 1))), a + 1 + hd b a % (((t.getD i.toNat default).fields.getD k default).n.toNat + 1)) := by unfold smpF; rw [if_neg hcd, if_pos hce]
        refine awp_drawn' (by kernel_rfl) ?_
        refine dr_pure rfl rfl rfl rfl (pure_move rfl gU) ?_
        refine dr_pure rfl rfl rfl rfl (pure_move rfl gU) ?_
        refine dr_callB1 (.o 0) rfl rfl rfl rfl rfl rfl rfl (cnext_spec b a) rfl (by rfl) (by rfl) rfl rfl rfl ?_
        refine dr_pure rfl rfl rfl rfl (pure_convInt rfl gU ⟨_, Try.underlying5⟩ (Try.underlying3) (IntWalk.i64_in _ (by omega))) ?_
        refine dr_pure rfl rfl rfl rfl (pure_fieldPtr rfl gU rfl rfl) ?_
        refine dr_load rfl rfl rfl rfl rfl rfl rfl gU rfl rfl rfl rfl ?_
        refine dr_pure rfl rfl rfl rfl (pure_arith rfl rfl gU gU rfl (IntWalk.i64_in _ (by omega))) ?_
        refine dr_pure rfl rfl rfl rfl (pure_remG rfl rfl gU gU (fun hh => by first | omega | (simp at hh; omega)) (fun hh => Int.tmod_eq_emod_of_nonneg (by first | omega | (simp at hh; omega)))) ?_
        refine dr_callB1 (.o 0) rfl rfl rfl rfl rfl rfl rfl (csome_spec b (a + 1) (hd b a % (((t.getD i.toNat default).fields.getD k default).n.toNat + 1)) _ (mod_int k3.1) (by omega)) rfl (by rfl) (by rfl) rfl rfl rfl ?_
        refine dr_pure rfl rfl rfl rfl (pure_fieldPtr rfl gU rfl rfl) ?_
        refine dr_store rfl rfl rfl rfl rfl rfl rfl rfl rfl rfl rfl rfl ?_
        refine dr_nil (by kernel_rfl) ?_
        refine awp_sub (s := { t := [(0, _, _), (1, _, _), (6, _, _), (7, _, _), (10, _, _), (15, _, _), (16, _, _), (17, _, _)], bx := [((.l 10), _), ((.l 6), _), ((.l 7), _), ((.o 0), _)], ow := [((.b (.l 7) 2), _)] }) (sub_mk (⟨sx rfl, ⟨sx rfl, ⟨sx rfl, ⟨sx rfl, ⟨sx rfl, ⟨sx rfl, ⟨sx rfl, ⟨sx rfl, trivial⟩⟩⟩⟩⟩⟩⟩⟩) (⟨sx rfl, ⟨sx rfl, ⟨sx rfl, ⟨sx rfl, trivial⟩⟩⟩⟩) (⟨(ak rfl (ak rfl (ak rfl (ak rfl (ak rfl (ak rfl (ak rfl (ak rfl (ak rfl (ak rfl (ak rfl (rfl)))))))))))), trivial⟩)) ?_
        refine awp_region ?_
        refine al_pure rfl rfl rfl (pure_fieldPtr rfl gU rfl rfl) ?_
        refine al_do rfl (does_loadTake rfl rfl rfl rfl rfl rfl rfl) ?_
        refine al_pure rfl rfl rfl (pure_loadBoxRow rfl gU rfl rfl rfl rfl rfl) ?_
        refine al_buildSlice (xs := [_]) rfl rfl rfl rfl rfl rfl rfl rfl rfl gU rfl ?_
        refine al_do rfl (does_append rfl rfl rfl rfl rfl rfl rfl (by simp [V.rows_len]; omega) (by simp [V.rows_len]; omega)) ?_
        refine al_pure rfl rfl rfl (pure_fieldPtr rfl gU rfl rfl) ?_
        refine al_do rfl (does_storeOwn rfl rfl rfl rfl rfl rfl rfl) ?_
        refine al_nil ?_
        refine awp_sub (s := { t := [(0, _, _), (1, _, _), (6, _, _), (7, _, _), (15, _, _), (16, _, _), (17, _, _)], bx := [((.l 6), _), ((.l 7), _), ((.o 0), _)], ow := [((.b (.l 7) 2), _)] }) (sub_mk (⟨sx rfl, ⟨sx rfl, ⟨sx rfl, ⟨sx rfl, ⟨sx rfl, ⟨sx rfl, ⟨sx rfl, trivial⟩⟩⟩⟩⟩⟩⟩) (⟨sx rfl, ⟨sx rfl, ⟨sx rfl, trivial⟩⟩⟩) (⟨rfl, trivial⟩)) ?_
        refine awp_region ?_
        refine al_pure rfl rfl rfl (pure_arith rfl rfl gU gU rfl (IntWalk.i64_in _ (by omega))) ?_
        refine al_pure rfl rfl rfl (pure_move rfl gU) ?_
        refine al_nil ?_
        refine ⟨(k + 1, vs ++ [(smpF rec b ((t.getD i.toNat default).fields.getD k default) a).1], (smpF rec b ((t.getD i.toNat default).fields.getD k default) a).2), ?_, ?_, sub_mk (⟨⟨_, rfl, ?_⟩, ⟨sx rfl, ⟨sx rfl, ⟨sx rfl, ⟨sx rfl, ⟨sx rfl, ⟨sx rfl, trivial⟩⟩⟩⟩⟩⟩⟩) (⟨⟨_, rfl, ?_⟩, ⟨⟨_, rfl, ?_⟩, ⟨sx rfl, trivial⟩⟩⟩) (⟨rfl, trivial⟩)⟩
        · exact ⟨by dsimp only; omega, by simp; omega, hinv⟩
        · dsimp only; omega
        · rfl
        · exact kid_eq (by rw [hF]; rfl)
        · rw [hF]
      · try simp only [nn, Fd.rows_len, Fm.rows_len, V.rows_len, bytesR_len, arrR_len] at hce
        refine awp_seq (awp_region ?_)
        refine al_pure rfl rfl rfl (pure_cmp rfl rfl gU gU rfl) ?_
        refine al_pure rfl rfl rfl (pure_assign rfl gU) ?_
        refine al_nil ?_
        refine awp_cond rfl (fun hcg => ?_) (fun hcg => ?_)
        · try simp only [nn, Fd.rows_len, Fm.rows_len, V.rows_len, bytesR_len, arrR_len] at hcg
          have hm := mod_int2 (x := hd b a) k6
          have hF : smpF rec b ((t.getD i.toNat default).fields.getD k default) a = (.mk [] (((t.getD i.toNat default).fields.getD k default).low + (hd b a % (((t.getD i.toNat default).fields.getD k default).high - ((t.getD i.toNat default).fields.getD k default).low + 1).toNat : Nat)) [], a + 1) := by unfold smpF; rw [if_neg hcd, if_neg hce, if_pos hcg]
          refine awp_drawn' (by kernel_rfl) ?_
          refine dr_pure rfl rfl rfl rfl (pure_fieldPtr rfl gU rfl rfl) ?_
          refine dr_load rfl rfl rfl rfl rfl rfl rfl gU rfl rfl rfl rfl ?_
          refine dr_pure rfl rfl rfl rfl (pure_move rfl gU) ?_
          refine dr_callB1 (.o 0) rfl rfl rfl rfl rfl rfl rfl (cnext_spec b a) rfl (by rfl) (by rfl) rfl rfl rfl ?_
          refine dr_pure rfl rfl rfl rfl (pure_convInt rfl gU ⟨_, Try.underlying5⟩ (Try.underlying3) (IntWalk.i64_in _ (by omega))) ?_
          refine dr_pure rfl rfl rfl rfl (pure_fieldPtr rfl gU rfl rfl) ?_
          refine dr_load rfl rfl rfl rfl rfl rfl rfl gU rfl rfl rfl rfl ?_
          refine dr_pure rfl rfl rfl rfl (pure_fieldPtr rfl gU rfl rfl) ?_
          refine dr_load rfl rfl rfl rfl rfl rfl rfl gU rfl rfl rfl rfl ?_
          refine dr_pure rfl rfl rfl rfl (pure_arith rfl rfl gU gU rfl (IntWalk.i64_in _ (by omega))) ?_
          refine dr_pure rfl rfl rfl rfl (pure_arith rfl rfl gU gU rfl (IntWalk.i64_in _ (by omega))) ?_
          refine dr_pure rfl rfl rfl rfl (pure_remG rfl rfl gU gU (fun hh => by first | omega | (simp at hh; omega)) (fun hh => Int.tmod_eq_emod_of_nonneg (by first | omega | (simp at hh; omega)))) ?_
          refine dr_pure rfl rfl rfl rfl (pure_arith rfl rfl gU gU rfl (IntWalk.i64_in _ (by omega))) ?_
          refine dr_pure rfl rfl rfl rfl (pure_fieldPtr rfl gU rfl rfl) ?_
          refine dr_store rfl rfl rfl rfl rfl rfl rfl rfl rfl rfl rfl rfl ?_
          refine dr_nil (by kernel_rfl) ?_
          refine awp_sub (s := { t := [(0, _, _), (1, _, _), (6, _, _), (7, _, _), (10, _, _), (15, _, _), (16, _, _), (17, _, _)], bx := [((.l 10), _), ((.l 6), _), ((.l 7), _), ((.o 0), _)], ow := [((.b (.l 7) 2), _)] }) (sub_mk (⟨sx rfl, ⟨sx rfl, ⟨sx rfl, ⟨sx rfl, ⟨sx rfl, ⟨sx rfl, ⟨sx rfl, ⟨sx rfl, trivial⟩⟩⟩⟩⟩⟩⟩⟩) (⟨sx rfl, ⟨sx rfl, ⟨sx rfl, ⟨sx rfl, trivial⟩⟩⟩⟩) (⟨(ak rfl (ak rfl (ak rfl (ak rfl (ak rfl (ak rfl (ak rfl (ak rfl (ak rfl (ak rfl (ak rfl (ak rfl (ak rfl (ak rfl (ak rfl (rfl)))))))))))))))), trivial⟩)) ?_
          refine awp_region ?_
          refine al_pure rfl rfl rfl (pure_fieldPtr rfl gU rfl rfl) ?_
          refine al_do rfl (does_loadTake rfl rfl rfl rfl rfl rfl rfl) ?_
          refine al_pure rfl rfl rfl (pure_loadBoxRow rfl gU rfl rfl rfl rfl rfl) ?_
          refine al_buildSlice (xs := [_]) rfl rfl rfl rfl rfl rfl rfl rfl rfl gU rfl ?_
          refine al_do rfl (does_append rfl rfl rfl rfl rfl rfl rfl (by simp [V.rows_len]; omega) (by simp [V.rows_len]; omega)) ?_
          refine al_pure rfl rfl rfl (pure_fieldPtr rfl gU rfl rfl) ?_
          refine al_do rfl (does_storeOwn rfl rfl rfl rfl rfl rfl rfl) ?_
          refine al_nil ?_
          refine awp_sub (s := { t := [(0, _, _), (1, _, _), (6, _, _), (7, _, _), (15, _, _), (16, _, _), (17, _, _)], bx := [((.l 6), _), ((.l 7), _), ((.o 0), _)], ow := [((.b (.l 7) 2), _)] }) (sub_mk (⟨sx rfl, ⟨sx rfl, ⟨sx rfl, ⟨sx rfl, ⟨sx rfl, ⟨sx rfl, ⟨sx rfl, trivial⟩⟩⟩⟩⟩⟩⟩) (⟨sx rfl, ⟨sx rfl, ⟨sx rfl, trivial⟩⟩⟩) (⟨rfl, trivial⟩)) ?_
          refine awp_region ?_
          refine al_pure rfl rfl rfl (pure_arith rfl rfl gU gU rfl (IntWalk.i64_in _ (by omega))) ?_
          refine al_pure rfl rfl rfl (pure_move rfl gU) ?_
          refine al_nil ?_
          refine ⟨(k + 1, vs ++ [(smpF rec b ((t.getD i.toNat default).fields.getD k default) a).1], (smpF rec b ((t.getD i.toNat default).fields.getD k default) a).2), ?_, ?_, sub_mk (⟨⟨_, rfl, ?_⟩, ⟨sx rfl, ⟨sx rfl, ⟨sx rfl, ⟨sx rfl, ⟨sx rfl, ⟨sx rfl, trivial⟩⟩⟩⟩⟩⟩⟩) (⟨⟨_, rfl, ?_⟩, ⟨⟨_, rfl, ?_⟩, ⟨sx rfl, trivial⟩⟩⟩) (⟨rfl, trivial⟩)⟩
          · exact ⟨by dsimp only; omega, by simp; omega, hinv⟩
          · dsimp only; omega
          · rfl
          · exact kid_eq (by rw [hF, hm]; rfl)
          · rw [hF]
        · try simp only [nn, Fd.rows_len, Fm.rows_len, V.rows_len, bytesR_len, arrR_len] at hcg
          refine awp_seq (awp_region ?_)
          refine al_pure rfl rfl rfl (pure_cmp rfl rfl gU gU rfl) ?_
          refine al_pure rfl rfl rfl (pure_assign rfl gU) ?_
          refine al_nil ?_
          refine awp_cond rfl (fun hch => ?_) (fun hch => ?_)
          · try simp only [nn, Fd.rows_len, Fm.rows_len, V.rows_len, bytesR_len, arrR_len] at hch
            have hF : smpF rec b ((t.getD i.toNat default).fields.getD k default) a = (bv (someA b (a + 1) (((t.getD i.toNat default).fields.getD k default).low.toNat + hd b a % (((t.getD i.toNat default).fields.getD k default).high - ((t.getD i.toNat default).fields.getD k default).low + 1).toNat)), a + 1 + (((t.getD i.toNat default).fields.getD k default).low.toNat + hd b a % (((t.getD i.toNat default).fields.getD k default).high - ((t.getD i.toNat default).fields.getD k default).low + 1).toNat)) := by unfold smpF; rw [if_neg hcd, if_neg hce, if_neg hcg, if_pos hch]
            refine awp_drawn' (by kernel_rfl) ?_
            refine dr_pure rfl rfl rfl rfl (pure_move rfl gU) ?_
            refine dr_pure rfl rfl rfl rfl (pure_fieldPtr rfl gU rfl rfl) ?_
            refine dr_load rfl rfl rfl rfl rfl rfl rfl gU rfl rfl rfl rfl ?_
            refine dr_pure rfl rfl rfl rfl (pure_move rfl gU) ?_
            refine dr_callB1 (.o 0) rfl rfl rfl rfl rfl rfl rfl (cnext_spec b a) rfl (by rfl) (by rfl) rfl rfl rfl ?_
            refine dr_pure rfl rfl rfl rfl (pure_convInt rfl gU ⟨_, Try.underlying5⟩ (Try.underlying3) (IntWalk.i64_in _ (by omega))) ?_
            refine dr_pure rfl rfl rfl rfl (pure_fieldPtr rfl gU rfl rfl) ?_
            refine dr_load rfl rfl rfl rfl rfl rfl rfl gU rfl rfl rfl rfl ?_
            refine dr_pure rfl rfl rfl rfl (pure_fieldPtr rfl gU rfl rfl) ?_
            refine dr_load rfl rfl rfl rfl rfl rfl rfl gU rfl rfl rfl rfl ?_
            refine dr_pure rfl rfl rfl rfl (pure_arith rfl rfl gU gU rfl (IntWalk.i64_in _ (by omega))) ?_
            refine dr_pure rfl rfl rfl rfl (pure_arith rfl rfl gU gU rfl (IntWalk.i64_in _ (by omega))) ?_
            refine dr_pure rfl rfl rfl rfl (pure_remG rfl rfl gU gU (fun hh => by first | omega | (simp at hh; omega)) (fun hh => Int.tmod_eq_emod_of_nonneg (by first | omega | (simp at hh; omega)))) ?_
            refine dr_pure rfl rfl rfl rfl (pure_arith rfl rfl gU gU rfl (IntWalk.i64_in _ (by omega))) ?_
            refine dr_callB1 (.o 0) rfl rfl rfl rfl rfl rfl rfl (csome_spec b (a + 1) (((t.getD i.toNat default).fields.getD k default).low.toNat + hd b a % (((t.getD i.toNat default).fields.getD k default).high - ((t.getD i.toNat default).fields.getD k default).low + 1).toNat) (((t.getD i.toNat default).fields.getD k default).low + (hd b a : Int) % (((t.getD i.toNat default).fields.getD k default).high - ((t.getD i.toNat default).fields.getD k default).low + 1)) (by rw [mod_int2 k6]; omega) (by omega)) rfl (by rfl) (by rfl) rfl rfl rfl ?_
            refine dr_pure rfl rfl rfl rfl (pure_fieldPtr rfl gU rfl rfl) ?_
            refine dr_store rfl rfl rfl rfl rfl rfl rfl rfl rfl rfl rfl rfl ?_
            refine dr_nil (by kernel_rfl) ?_
            refine awp_sub (s := { t := [(0, _, _), (1, _, _), (6, _, _), (7, _, _), (10, _, _), (15, _, _), (16, _, _), (17, _, _)], bx := [((.l 10), _), ((.l 6), _), ((.l 7), _), ((.o 0), _)], ow := [((.b (.l 7) 2), _)] }) (sub_mk (⟨sx rfl, ⟨sx rfl, ⟨sx rfl, ⟨sx rfl, ⟨sx rfl, ⟨sx rfl, ⟨sx rfl, ⟨sx rfl, trivial⟩⟩⟩⟩⟩⟩⟩⟩) (⟨sx rfl, ⟨sx rfl, ⟨sx rfl, ⟨sx rfl, trivial⟩⟩⟩⟩) (⟨(ak rfl (ak rfl (ak rfl (ak rfl (ak rfl (ak rfl (ak rfl (ak rfl (ak rfl (ak rfl (ak rfl (ak rfl (ak rfl (ak rfl (ak rfl (ak rfl (ak rfl (rfl)))))))))))))))))), trivial⟩)) ?_
            refine awp_region ?_
            refine al_pure rfl rfl rfl (pure_fieldPtr rfl gU rfl rfl) ?_
            refine al_do rfl (does_loadTake rfl rfl rfl rfl rfl rfl rfl) ?_
            refine al_pure rfl rfl rfl (pure_loadBoxRow rfl gU rfl rfl rfl rfl rfl) ?_
            refine al_buildSlice (xs := [_]) rfl rfl rfl rfl rfl rfl rfl rfl rfl gU rfl ?_
            refine al_do rfl (does_append rfl rfl rfl rfl rfl rfl rfl (by simp [V.rows_len]; omega) (by simp [V.rows_len]; omega)) ?_
            refine al_pure rfl rfl rfl (pure_fieldPtr rfl gU rfl rfl) ?_
            refine al_do rfl (does_storeOwn rfl rfl rfl rfl rfl rfl rfl) ?_
            refine al_nil ?_
            refine awp_sub (s := { t := [(0, _, _), (1, _, _), (6, _, _), (7, _, _), (15, _, _), (16, _, _), (17, _, _)], bx := [((.l 6), _), ((.l 7), _), ((.o 0), _)], ow := [((.b (.l 7) 2), _)] }) (sub_mk (⟨sx rfl, ⟨sx rfl, ⟨sx rfl, ⟨sx rfl, ⟨sx rfl, ⟨sx rfl, ⟨sx rfl, trivial⟩⟩⟩⟩⟩⟩⟩) (⟨sx rfl, ⟨sx rfl, ⟨sx rfl, trivial⟩⟩⟩) (⟨rfl, trivial⟩)) ?_
            refine awp_region ?_
            refine al_pure rfl rfl rfl (pure_arith rfl rfl gU gU rfl (IntWalk.i64_in _ (by omega))) ?_
            refine al_pure rfl rfl rfl (pure_move rfl gU) ?_
            refine al_nil ?_
            refine ⟨(k + 1, vs ++ [(smpF rec b ((t.getD i.toNat default).fields.getD k default) a).1], (smpF rec b ((t.getD i.toNat default).fields.getD k default) a).2), ?_, ?_, sub_mk (⟨⟨_, rfl, ?_⟩, ⟨sx rfl, ⟨sx rfl, ⟨sx rfl, ⟨sx rfl, ⟨sx rfl, ⟨sx rfl, trivial⟩⟩⟩⟩⟩⟩⟩) (⟨⟨_, rfl, ?_⟩, ⟨⟨_, rfl, ?_⟩, ⟨sx rfl, trivial⟩⟩⟩) (⟨rfl, trivial⟩)⟩
            · exact ⟨by dsimp only; omega, by simp; omega, hinv⟩
            · dsimp only; omega
            · rfl
            · exact kid_eq (by rw [hF]; rfl)
            · rw [hF]
          · try simp only [nn, Fd.rows_len, Fm.rows_len, V.rows_len, bytesR_len, arrR_len] at hch
            refine awp_seq (awp_region ?_)
            refine al_pure rfl rfl rfl (pure_cmp rfl rfl gU gU rfl) ?_
            refine al_pure rfl rfl rfl (pure_assign rfl gU) ?_
            refine al_nil ?_
            refine awp_sub (s := { t := [(0, _, _), (1, _, _), (6, _, _), (7, _, _), (9, _, _), (10, _, _), (15, _, _), (16, _, _), (17, _, _), (76, _, _)], bx := [((.l 10), _), ((.l 6), _), ((.l 7), _), ((.l 9), _), ((.o 0), _)], ow := [((.b (.l 7) 2), _)] }) (sub_mk (⟨sx rfl, ⟨sx rfl, ⟨sx rfl, ⟨sx rfl, ⟨sx rfl, ⟨sx rfl, ⟨sx rfl, ⟨sx rfl, ⟨sx rfl, ⟨sx rfl, trivial⟩⟩⟩⟩⟩⟩⟩⟩⟩⟩) (⟨sx rfl, ⟨sx rfl, ⟨sx rfl, ⟨sx rfl, ⟨sx rfl, trivial⟩⟩⟩⟩⟩) (⟨rfl, trivial⟩)) ?_
            refine awp_cond rfl (fun hci => ?_) (fun hci => ?_)
            · try simp only [nn, Fd.rows_len, Fm.rows_len, V.rows_len, bytesR_len, arrR_len] at hci
              have hF : smpF rec b ((t.getD i.toNat default).fields.getD k default) a = rec ((t.getD i.toNat default).fields.getD k default).n a := by unfold smpF; rw [if_neg hcd, if_neg hce, if_neg hcg, if_neg hch, if_pos hci]
              refine awp_region ?_
              refine al_pure rfl rfl rfl (pure_move rfl gU) ?_
              refine al_pure rfl rfl rfl (pure_move rfl gU) ?_
              refine al_pure rfl rfl rfl (pure_fieldPtr rfl gU rfl rfl) ?_
              refine al_pure rfl rfl rfl (pure_loadBox rfl gU rfl rfl rfl rfl) ?_
              refine al_callB1 (.o 0) rfl rfl rfl rfl rfl rfl (hre hci a) rfl (by rfl) (by rfl) rfl rfl rfl ?_
              refine al_do rfl (does_store rfl rfl rfl rfl rfl rfl rfl) ?_
              refine al_nil ?_
              refine awp_sub (s := { t := [(0, _, _), (1, _, _), (6, _, _), (7, _, _), (10, _, _), (15, _, _), (16, _, _), (17, _, _)], bx := [((.l 10), _), ((.l 6), _), ((.l 7), _), ((.o 0), _)], ow := [((.b (.l 7) 2), _)] }) (sub_mk (⟨sx rfl, ⟨sx rfl, ⟨sx rfl, ⟨sx rfl, ⟨sx rfl, ⟨sx rfl, ⟨sx rfl, ⟨sx rfl, trivial⟩⟩⟩⟩⟩⟩⟩⟩) (⟨sx rfl, ⟨sx rfl, ⟨sx rfl, ⟨sx rfl, trivial⟩⟩⟩⟩) (⟨rfl, trivial⟩)) ?_
              refine awp_region ?_
              refine al_pure rfl rfl rfl (pure_fieldPtr rfl gU rfl rfl) ?_
              refine al_do rfl (does_loadTake rfl rfl rfl rfl rfl rfl rfl) ?_
              refine al_pure rfl rfl rfl (pure_loadBoxRow rfl gU rfl rfl rfl rfl rfl) ?_
              refine al_buildSlice (xs := [_]) rfl rfl rfl rfl rfl rfl rfl rfl rfl gU rfl ?_
              refine al_do rfl (does_append rfl rfl rfl rfl rfl rfl rfl (by simp [V.rows_len]; omega) (by simp [V.rows_len]; omega)) ?_
              refine al_pure rfl rfl rfl (pure_fieldPtr rfl gU rfl rfl) ?_
              refine al_do rfl (does_storeOwn rfl rfl rfl rfl rfl rfl rfl) ?_
              refine al_nil ?_
              refine awp_sub (s := { t := [(0, _, _), (1, _, _), (6, _, _), (7, _, _), (15, _, _), (16, _, _), (17, _, _)], bx := [((.l 6), _), ((.l 7), _), ((.o 0), _)], ow := [((.b (.l 7) 2), _)] }) (sub_mk (⟨sx rfl, ⟨sx rfl, ⟨sx rfl, ⟨sx rfl, ⟨sx rfl, ⟨sx rfl, ⟨sx rfl, trivial⟩⟩⟩⟩⟩⟩⟩) (⟨sx rfl, ⟨sx rfl, ⟨sx rfl, trivial⟩⟩⟩) (⟨rfl, trivial⟩)) ?_
              refine awp_region ?_
              refine al_pure rfl rfl rfl (pure_arith rfl rfl gU gU rfl (IntWalk.i64_in _ (by omega))) ?_
              refine al_pure rfl rfl rfl (pure_move rfl gU) ?_
              refine al_nil ?_
              refine ⟨(k + 1, vs ++ [(smpF rec b ((t.getD i.toNat default).fields.getD k default) a).1], (smpF rec b ((t.getD i.toNat default).fields.getD k default) a).2), ?_, ?_, sub_mk (⟨⟨_, rfl, ?_⟩, ⟨sx rfl, ⟨sx rfl, ⟨sx rfl, ⟨sx rfl, ⟨sx rfl, ⟨sx rfl, trivial⟩⟩⟩⟩⟩⟩⟩) (⟨⟨_, rfl, ?_⟩, ⟨⟨_, rfl, ?_⟩, ⟨sx rfl, trivial⟩⟩⟩) (⟨rfl, trivial⟩)⟩
              · exact ⟨by dsimp only; omega, by simp; omega, hinv⟩
              · dsimp only; omega
              · rfl
              · exact kid_eq (by rw [hF]; rfl)
              · rw [hF]
            · try simp only [nn, Fd.rows_len, Fm.rows_len, V.rows_len, bytesR_len, arrR_len] at hci
              have hF : smpF rec b ((t.getD i.toNat default).fields.getD k default) a = (v0, a) := by unfold smpF; rw [if_neg hcd, if_neg hce, if_neg hcg, if_neg hch, if_neg hci]
              refine awp_skip ?_
              refine awp_region ?_
              refine al_pure rfl rfl rfl (pure_fieldPtr rfl gU rfl rfl) ?_
              refine al_do rfl (does_loadTake rfl rfl rfl rfl rfl rfl rfl) ?_
              refine al_pure rfl rfl rfl (pure_loadBoxRow rfl gU rfl rfl rfl rfl rfl) ?_
              refine al_buildSlice (xs := [_]) rfl rfl rfl rfl rfl rfl rfl rfl rfl gU rfl ?_
              refine al_do rfl (does_append rfl rfl rfl rfl rfl rfl rfl (by simp [V.rows_len]; omega) (by simp [V.rows_len]; omega)) ?_
              refine al_pure rfl rfl rfl (pure_fieldPtr rfl gU rfl rfl) ?_
              refine al_do rfl (does_storeOwn rfl rfl rfl rfl rfl rfl rfl) ?_
              refine al_nil ?_
              refine awp_sub (s := { t := [(0, _, _), (1, _, _), (6, _, _), (7, _, _), (15, _, _), (16, _, _), (17, _, _)], bx := [((.l 6), _), ((.l 7), _), ((.o 0), _)], ow := [((.b (.l 7) 2), _)] }) (sub_mk (⟨sx rfl, ⟨sx rfl, ⟨sx rfl, ⟨sx rfl, ⟨sx rfl, ⟨sx rfl, ⟨sx rfl, trivial⟩⟩⟩⟩⟩⟩⟩) (⟨sx rfl, ⟨sx rfl, ⟨sx rfl, trivial⟩⟩⟩) (⟨rfl, trivial⟩)) ?_
              refine awp_region ?_
              refine al_pure rfl rfl rfl (pure_arith rfl rfl gU gU rfl (IntWalk.i64_in _ (by omega))) ?_
              refine al_pure rfl rfl rfl (pure_move rfl gU) ?_
              refine al_nil ?_
              refine ⟨(k + 1, vs ++ [(smpF rec b ((t.getD i.toNat default).fields.getD k default) a).1], (smpF rec b ((t.getD i.toNat default).fields.getD k default) a).2), ?_, ?_, sub_mk (⟨⟨_, rfl, ?_⟩, ⟨sx rfl, ⟨sx rfl, ⟨sx rfl, ⟨sx rfl, ⟨sx rfl, ⟨sx rfl, trivial⟩⟩⟩⟩⟩⟩⟩) (⟨⟨_, rfl, ?_⟩, ⟨⟨_, rfl, ?_⟩, ⟨sx rfl, trivial⟩⟩⟩) (⟨rfl, trivial⟩)⟩
              · exact ⟨by dsimp only; omega, by simp; omega, hinv⟩
              · dsimp only; omega
              · rfl
              · exact kid_eq (by rw [hF]; rfl)
              · rw [hF]
  · try simp only [nn, Fd.rows_len, Fm.rows_len, V.rows_len, bytesR_len, arrR_len] at hc
    rw [List.drop_of_length_le (by omega), smpL] at hinv
    rw [← hinv]
    refine awp_exit ?_
    repeat (first | refine thenS_exit ?_ | refine blockS_hit ?_ | refine blockS_miss rfl ?_)
    refine awp_seq (awp_region ?_)
    refine al_pure rfl rfl rfl (pure_loadBoxRow rfl gU rfl rfl rfl rfl rfl) ?_
    refine al_do rfl (does_store rfl rfl rfl rfl rfl rfl rfl) ?_
    refine al_nil ?_
    refine awp_ret ?_
    repeat (first | refine tR ?_ | refine bR ?_)
    refine ret_ok rfl ?_ (⟨⟨_, rfl, ?_⟩, trivial⟩)
    · rfl
    · rfl
theorem csample0_spec (t : List Fm) (i : Int) (b : List UInt8) (a : Nat) (hi : 0 ≤ i ∧ i < t.length) (h : Plain1 (t.getD i.toNat default).fields) :
    Ctr sys 47 [pp, xtab t, xi i] [cb b a] (xv (smp0 t b i a).1) none [cb b (smp0 t b i a).2] :=
  csample_gen t i b a _ hi h.len.2 (fun k hk => (h.ok k hk).1) fun k hk h5 => absurd h5 (h.ok k hk).2.1
theorem csample_spec (t : List Fm) (i : Int) (b : List UInt8) (a : Nat) (hi : 0 ≤ i ∧ i < t.length) (h : Fds t (t.getD i.toNat default).fields) :
    Ctr sys 47 [pp, xtab t, xi i] [cb b a] (xv (smpT t b i a).1) none [cb b (smpT t b i a).2] :=
  csample_gen t i b a _ hi h.len.2 h.ok fun k hk h5 a => csample0_spec t _ b a (by have := (h.nest k hk h5).1; have := (h.ok k hk).n; omega) (h.nest k hk h5).2
theorem clone_spec (l : List UInt8) (h : l.length ≤ 100000) : Ctr sys 30 [xbs l] [] (xbs l) none [] := by
  have hr : (bytesR l).length ≤ 100000 := by rw [bytesR_len]; exact h
  refine spec_intro Try.func30 rfl rfl rfl rfl rfl rfl ?_
  refine awp_seq (awp_region ?_)
  refine al_do rfl (does_nil (.inr rfl) rfl rfl) ?_
  refine al_nil ?_
  refine awp_seq ?_
  refine awp_seq (awp_region ?_)
  refine al_pure rfl rfl rfl (pure_move rfl gU) ?_
  refine al_eqNil rfl rfl rfl rfl rfl rfl rfl rfl (fun b hb => ?_)
  refine al_nil ?_
  refine awp_cond rfl (fun hc => ?_) (fun hc => ?_)
  · refine awp_seq (awp_region ?_)
    refine al_do rfl (does_nil (.inr rfl) rfl rfl) ?_
    refine al_nil ?_
    refine awp_ret ?_
    repeat (first | refine tR ?_ | refine bR ?_)
    refine ret_ok rfl ?_ trivial
    have := hb hc
    show X.v (.c (.sl 1 [])) = X.v (.c (.sl 1 (bytesR l)))
    rw [this]
  · refine awp_skip ?_
    refine awp_seq (awp_region ?_)
    refine al_buildSlice (xs := []) rfl rfl rfl rfl rfl rfl rfl rfl rfl gU rfl ?_
    refine al_pure rfl rfl rfl (pure_move rfl gU) ?_
    refine al_do rfl (does_append rfl rfl rfl rfl rfl rfl rfl (by simp [bytesR_len]; omega) (by simp [bytesR_len]; omega)) ?_
    refine al_do rfl (does_take (.inr rfl) rfl rfl rfl) ?_
    refine al_nil ?_
    refine awp_ret ?_
    repeat (first | refine tR ?_ | refine bR ?_)
    refine ret_ok rfl ?_ trivial
    rfl
abbrev xve (p : V × Int) : X := .tup [.agg p.1.cells, .c (.i .i64 p.2)]
theorem cSample_spec (t : List Fm) (i : Int) (b : List UInt8) (hb2 : b.length ≤ 100000) : Ctr sys 29 [xtab t, xi i, xbs b] [] (xve (smpE t i b)) none [] := by
  have hb := boundsE_err t i
  refine spec_intro Try.func29 rfl rfl rfl rfl rfl rfl ?_
  refine awp_seq (awp_region ?_)
  refine al_do rfl (does_alloc rfl rfl rfl) ?_
  refine al_pure rfl rfl rfl (pure_assign rfl gU) ?_
  refine al_nil ?_
  refine awp_seq ?_
  refine awp_seq (awp_region ?_)
  refine al_pure rfl rfl rfl (pure_move rfl gU) ?_
  refine al_pure rfl rfl rfl (pure_move rfl gU) ?_
  refine al_call rfl rfl rfl rfl rfl rfl gU gU (fBounds_spec _ _) rfl ?_
  refine al_pure rfl rfl rfl (pure_move rfl gU) ?_
  refine al_pure rfl rfl rfl (pure_extract rfl gU rfl) ?_
  refine al_pure rfl rfl rfl (pure_extract rfl gU rfl) ?_
  refine al_pure rfl rfl rfl (pure_extract rfl gU rfl) ?_
  refine al_pure rfl rfl rfl (pure_assign rfl gU) ?_
  refine al_pure rfl rfl rfl (pure_assign rfl gU) ?_
  refine al_pure rfl rfl rfl (pure_assign rfl gU) ?_
  refine al_nil ?_
  refine awp_sub (s := { t := [(0, _, _), (1, _, _), (2, _, _), (6, _, _), (10, _, _)], bx := [((.l 6), _)], ow := [] }) (sub_mk (⟨sx rfl, ⟨sx rfl, ⟨sx rfl, ⟨sx rfl, ⟨sx rfl, trivial⟩⟩⟩⟩⟩) (⟨sx rfl, trivial⟩) trivial) ?_
  refine awp_seq (awp_region ?_)
  refine al_pure rfl rfl rfl (pure_move rfl gU) ?_
  refine al_pure rfl rfl rfl (pure_cmp rfl rfl gU gU rfl) ?_
  refine al_nil ?_
  refine awp_cond rfl (fun hc => ?_) (fun hc => ?_)
  · try simp only [nn, Fd.rows_len, Fm.rows_len, V.rows_len, bytesR_len, arrR_len] at hc
    refine awp_seq (awp_region ?_)
    refine al_pure rfl rfl rfl (pure_build rfl Try.underlying25 rfl gU) ?_
    refine al_pure rfl rfl rfl (pure_move rfl gU) ?_
    refine al_do rfl (does_store rfl rfl rfl rfl rfl rfl rfl) ?_
    refine al_pure rfl rfl rfl (pure_assign rfl gU) ?_
    refine al_nil ?_
    refine awp_ret ?_
    repeat (first | refine tR ?_ | refine bR ?_)
    refine ret_ok rfl ?_ trivial
    (rw [smpE, if_pos (by omega), hb]; rfl)
  · try simp only [nn, Fd.rows_len, Fm.rows_len, V.rows_len, bytesR_len, arrR_len] at hc
    have he : errE t i = 0 := by omega
    refine awp_skip ?_
    refine awp_seq (awp_region ?_)
    refine al_pure rfl rfl rfl (pure_move rfl gU) ?_
    refine al_call rfl rfl rfl rfl rfl rfl gU gU (clone_spec b hb2) rfl ?_
    refine al_pure rfl rfl rfl (pure_build rfl Try.underlying83 rfl gU) ?_
    refine al_do rfl (does_box rfl rfl rfl rfl) ?_
    refine al_pure rfl rfl rfl (pure_assign rfl gU) ?_
    refine al_nil ?_
    refine awp_sub (s := { t := [(0, _, _), (1, _, _), (6, _, _), (11, _, _)], bx := [((.l 26), _), ((.l 6), _)], ow := [] }) (sub_mk (⟨sx rfl, ⟨sx rfl, ⟨sx rfl, ⟨sx rfl, trivial⟩⟩⟩⟩) (⟨sx rfl, ⟨sx rfl, trivial⟩⟩) trivial) ?_
    refine awp_seq (awp_region ?_)
    refine al_pure rfl rfl rfl (pure_move rfl gU) ?_
    refine al_pure rfl rfl rfl (pure_move rfl gU) ?_
    refine al_pure rfl rfl rfl (pure_move rfl gU) ?_
    refine al_callB1 (.l 26) rfl rfl rfl rfl rfl rfl (csample_spec t i b 0 (errE_fds he).1 (errE_fds he).2) rfl (by rfl) (by rfl) rfl rfl rfl ?_
    refine al_do rfl (does_store rfl rfl rfl rfl rfl rfl rfl) ?_
    refine al_pure rfl rfl rfl (pure_assign rfl gU) ?_
    refine al_nil ?_
    refine awp_ret ?_
    repeat (first | refine tR ?_ | refine bR ?_)
    refine ret_ok rfl ?_ trivial
    (rw [smpE, if_neg (by omega)]; rfl)
end Go.Proofs.Ytgjclggjkhapfaa
/- Contracts: values that bytes choose, as the reference chooses them. -/
set_option linter.unusedVariables false
set_option linter.unusedSimpArgs false
namespace Go.Proofs.Ytgjclggjkhapfaa
open Go Go.Abs
abbrev sc (b : List UInt8) (a : Nat) : List C := [.sl 1 (bytesR b), .i .i64 a]
theorem sc_eq {b : List UInt8} {a : Int} {n : Nat} (h : a = n) : [C.sl 1 (bytesR b), C.i .i64 a] = sc b n := by rw [h]
theorem someA_xbs {b : List UInt8} {a k : Nat} {n : Int} (h : n = (b.getD (a + k) 0).toNat) : X.v (.c (.sl 1 (bytesR (someA b a k) ++ [[.i .u8 n]]))) = xbs (someA b a (k + 1)) := by
  rw [someA_snoc]; exact xbs_snoc _ _ _ h.symm
theorem getD_past {b : List UInt8} {a : Nat} (h : b.length ≤ a) : b.getD a 0 = 0 := by rw [List.getD_eq_getElem?_getD, List.getElem?_eq_none h]; rfl
theorem rnext_spec (b : List UInt8) (a n : Nat) (ni : Int) (hn : ni = n) (hb : b.length ≤ 100000) (ha : a ≤ 200000) (hn2 : n ≤ 5000) :
    Ctr sys 75 [.v (.agg (sc b a)), xi ni] [] (.tup [.c (.s (someA b a n)), .agg (sc b (a + n))]) none [] := by
  subst hn
  have hbl := bytesR_len b
  refine spec_intro Try.func75 rfl rfl rfl rfl rfl rfl ?_
  refine awp_seq (awp_region ?_)
  refine al_do rfl (does_box rfl rfl rfl rfl) ?_
  refine al_pure rfl rfl rfl (pure_assign rfl gU) ?_
  refine al_do rfl (does_alloc rfl rfl rfl) ?_
  refine al_nil ?_
  refine awp_seq (awp_region ?_)
  refine al_do rfl (does_nil (.inr rfl) rfl rfl) ?_
  refine al_nil ?_
  refine awp_seq ?_
  refine awp_seq (awp_region ?_)
  refine al_pure rfl rfl rfl (pure_assign rfl gU) ?_
  refine al_nil ?_
  refine awp_sub (s := { t := [(1, _, _), (2, _, _), (5, _, _), (6, _, _), (7, _, _)], bx := [((.l 2), _), ((.l 5), _)], ow := [((.t 6), _)] }) (sub_mk (⟨sx rfl, ⟨sx rfl, ⟨sx rfl, ⟨sx rfl, ⟨sx rfl, trivial⟩⟩⟩⟩⟩) (⟨sx rfl, ⟨sx rfl, trivial⟩⟩) (⟨rfl, trivial⟩)) ?_
  refine awp_block ?_
  refine awp_for (ι := Nat) { t := [(1, _, _), (2, _, _), (5, _, _)], bx := [((.l 2), _), ((.l 5), _)], ow := [((.t 6), _)] } (fun k => [(7, true, xi (k : Int)), (6, true, xbs (someA b a k))]) (fun k => []) (fun k => k ≤ n) (fun k => n - k) (0) (by simp) (sub_mk (⟨sx rfl, ⟨sx rfl, ⟨sx rfl, ⟨sx rfl, ⟨sx rfl, trivial⟩⟩⟩⟩⟩) (⟨sx rfl, ⟨sx rfl, trivial⟩⟩) (⟨rfl, trivial⟩)) ?_
  intro k hok
  dsimp only [List.cons_append, List.nil_append]
  refine awp_seq ?_
  refine awp_seq (awp_region ?_)
  refine al_pure rfl rfl rfl (pure_move rfl gU) ?_
  refine al_pure rfl rfl rfl (pure_move rfl gU) ?_
  refine al_pure rfl rfl rfl (pure_cmp rfl rfl gU gU rfl) ?_
  refine al_nil ?_
  refine awp_cond rfl (fun hc => ?_) (fun hc => ?_)
  · try simp only [nn, Fd.rows_len, Fm.rows_len, V.rows_len, bytesR_len] at hc
    refine awp_skip ?_
    refine awp_seq ?_
    refine awp_block ?_
    refine awp_seq (awp_region ?_)
    refine al_pure rfl rfl rfl (pure_assign rfl gU) ?_
    refine al_nil ?_
    refine awp_seq ?_
    refine awp_seq (awp_region ?_)
    refine al_pure rfl rfl rfl (pure_fieldPtr rfl gU rfl rfl) ?_
    refine al_pure rfl rfl rfl (pure_loadBox rfl gU rfl rfl rfl rfl) ?_
    refine al_pure rfl rfl rfl (pure_move rfl gU) ?_
    refine al_pure rfl rfl rfl (pure_arith rfl rfl gU gU rfl (IntWalk.i64_in _ (by omega))) ?_
    refine al_pure rfl rfl rfl (pure_fieldPtr rfl gU rfl rfl) ?_
    refine al_pure rfl rfl rfl (pure_loadBox rfl gU rfl rfl rfl rfl) ?_
    refine al_lenSl rfl rfl rfl rfl rfl gU rfl rfl ?_ (fun hh => by simp at hh); intro hlen
    refine al_pure rfl rfl rfl (pure_cmp rfl rfl gU gU rfl) ?_
    refine al_nil ?_
    refine awp_sub (s := { t := [(1, _, _), (2, _, _), (5, _, _), (6, _, _), (7, _, _), (8, _, _), (21, _, _)], bx := [((.l 2), _), ((.l 5), _)], ow := [((.t 6), _)] }) (sub_mk (⟨sx rfl, ⟨sx rfl, ⟨sx rfl, ⟨sx rfl, ⟨sx rfl, ⟨sx rfl, ⟨sx rfl, trivial⟩⟩⟩⟩⟩⟩⟩) (⟨sx rfl, ⟨sx rfl, trivial⟩⟩) (⟨rfl, trivial⟩)) ?_
    refine awp_cond rfl (fun hcd => ?_) (fun hcd => ?_)
    · try simp only [nn, Fd.rows_len, Fm.rows_len, V.rows_len, bytesR_len] at hcd
      refine awp_region ?_
      refine al_pure rfl rfl rfl (pure_fieldPtr rfl gU rfl rfl) ?_
      refine al_pure rfl rfl rfl (pure_loadBox rfl gU rfl rfl rfl rfl) ?_
      refine al_pure rfl rfl rfl (pure_fieldPtr rfl gU rfl rfl) ?_
      refine al_pure rfl rfl rfl (pure_loadBox rfl gU rfl rfl rfl rfl) ?_
      refine al_pure rfl rfl rfl (pure_move rfl gU) ?_
      refine al_pure rfl rfl rfl (pure_arith rfl rfl gU gU rfl (IntWalk.i64_in _ (by omega))) ?_
      refine al_pure rfl rfl rfl (pure_indexAddr (j := a + k) rfl rfl gU gU rfl rfl (by first | omega | (simp at hh; omega)) (fun hh => bytesR_at (by first | omega | (simp at hh; omega)))) ?_
      refine al_pure rfl rfl rfl (pure_loadRo rfl gU rfl rfl rfl) ?_
      refine al_pure rfl rfl rfl (pure_assign rfl gU) ?_
      refine al_nil ?_
      refine awp_sub (s := { t := [(1, _, _), (2, _, _), (5, _, _), (6, _, _), (7, _, _), (8, _, _)], bx := [((.l 2), _), ((.l 5), _)], ow := [((.t 6), _)] }) (sub_mk (⟨sx rfl, ⟨sx rfl, ⟨sx rfl, ⟨sx rfl, ⟨sx rfl, ⟨sx rfl, trivial⟩⟩⟩⟩⟩⟩) (⟨sx rfl, ⟨sx rfl, trivial⟩⟩) (⟨rfl, trivial⟩)) ?_
      refine awp_region ?_
      refine al_do rfl (does_take (.inl rfl) rfl rfl rfl) ?_
      refine al_pure rfl rfl rfl (pure_move rfl gU) ?_
      refine al_buildSlice (xs := [_]) rfl rfl rfl rfl rfl rfl rfl rfl rfl gU rfl ?_
      refine al_do rfl (does_append rfl rfl rfl rfl rfl rfl rfl (by simp [bytesR_len, someA_len]; omega) (by simp [bytesR_len, someA_len]; omega)) ?_
      refine al_do rfl (does_take (.inr rfl) rfl rfl rfl) ?_
      refine al_nil ?_
      refine awp_sub (s := { t := [(1, _, _), (2, _, _), (5, _, _), (6, _, _), (7, _, _)], bx := [((.l 2), _), ((.l 5), _)], ow := [((.t 6), _)] }) (sub_mk (⟨sx rfl, ⟨sx rfl, ⟨sx rfl, ⟨sx rfl, ⟨sx rfl, trivial⟩⟩⟩⟩⟩) (⟨sx rfl, ⟨sx rfl, trivial⟩⟩) (⟨rfl, trivial⟩)) ?_
      refine awp_region ?_
      refine al_pure rfl rfl rfl (pure_move rfl gU) ?_
      refine al_pure rfl rfl rfl (pure_arith rfl rfl gU gU rfl (IntWalk.i64_in _ (by omega))) ?_
      refine al_pure rfl rfl rfl (pure_assign rfl gU) ?_
      refine al_nil ?_
      refine ⟨k + 1, ?_, ?_, sub_mk (⟨⟨_, rfl, ?_⟩, ⟨⟨_, rfl, ?_⟩, ⟨sx rfl, ⟨sx rfl, ⟨sx rfl, trivial⟩⟩⟩⟩⟩) (⟨sx rfl, ⟨sx rfl, trivial⟩⟩) (⟨rfl, trivial⟩)⟩
      · omega
      · omega
      · rfl
      · exact tx (someA_xbs rfl)
    · try simp only [nn, Fd.rows_len, Fm.rows_len, V.rows_len, bytesR_len] at hcd
      refine awp_skip ?_
      refine awp_region ?_
      refine al_do rfl (does_take (.inl rfl) rfl rfl rfl) ?_
      refine al_pure rfl rfl rfl (pure_move rfl gU) ?_
      refine al_buildSlice (xs := [_]) rfl rfl rfl rfl rfl rfl rfl rfl rfl gU rfl ?_
      refine al_do rfl (does_append rfl rfl rfl rfl rfl rfl rfl (by simp [bytesR_len, someA_len]; omega) (by simp [bytesR_len, someA_len]; omega)) ?_
      refine al_do rfl (does_take (.inr rfl) rfl rfl rfl) ?_
      refine al_nil ?_
      refine awp_sub (s := { t := [(1, _, _), (2, _, _), (5, _, _), (6, _, _), (7, _, _)], bx := [((.l 2), _), ((.l 5), _)], ow := [((.t 6), _)] }) (sub_mk (⟨sx rfl, ⟨sx rfl, ⟨sx rfl, ⟨sx rfl, ⟨sx rfl, trivial⟩⟩⟩⟩⟩) (⟨sx rfl, ⟨sx rfl, trivial⟩⟩) (⟨rfl, trivial⟩)) ?_
      refine awp_region ?_
      refine al_pure rfl rfl rfl (pure_move rfl gU) ?_
      refine al_pure rfl rfl rfl (pure_arith rfl rfl gU gU rfl (IntWalk.i64_in _ (by omega))) ?_
      refine al_pure rfl rfl rfl (pure_assign rfl gU) ?_
      refine al_nil ?_
      refine ⟨k + 1, ?_, ?_, sub_mk (⟨⟨_, rfl, ?_⟩, ⟨⟨_, rfl, ?_⟩, ⟨sx rfl, ⟨sx rfl, ⟨sx rfl, trivial⟩⟩⟩⟩⟩) (⟨sx rfl, ⟨sx rfl, trivial⟩⟩) (⟨rfl, trivial⟩)⟩
      · omega
      · omega
      · rfl
      · exact tx (someA_xbs (by rw [getD_past (by omega)]; rfl))
  · try simp only [nn, Fd.rows_len, Fm.rows_len, V.rows_len, bytesR_len] at hc
    have hk : k = n := by omega
    subst hk
    refine awp_exit ?_
    repeat (first | refine thenS_exit ?_ | refine blockS_hit ?_ | refine blockS_miss rfl ?_)
    refine awp_seq (awp_region ?_)
    refine al_pure rfl rfl rfl (pure_fieldPtr rfl gU rfl rfl) ?_
    refine al_pure rfl rfl rfl (pure_loadBox rfl gU rfl rfl rfl rfl) ?_
    refine al_pure rfl rfl rfl (pure_move rfl gU) ?_
    refine al_pure rfl rfl rfl (pure_arith rfl rfl gU gU rfl (IntWalk.i64_in _ (by omega))) ?_
    refine al_pure rfl rfl rfl (pure_fieldPtr rfl gU rfl rfl) ?_
    refine al_do rfl (does_store rfl rfl rfl rfl rfl rfl rfl) ?_
    refine al_nil ?_
    refine awp_sub (s := { t := [(2, _, _), (5, _, _), (6, _, _)], bx := [((.l 2), _), ((.l 5), _)], ow := [((.t 6), _)] }) (sub_mk (⟨sx rfl, ⟨sx rfl, ⟨sx rfl, trivial⟩⟩⟩) (⟨sx rfl, ⟨sx rfl, trivial⟩⟩) (⟨rfl, trivial⟩)) ?_
    refine awp_seq ?_
    refine awp_drawn' (by kernel_rfl) ?_
    refine dr_pure rfl rfl rfl rfl (pure_move rfl gU) ?_
    refine dr_pure rfl rfl rfl rfl (pure_bytesStr (l := someA b a k) rfl (by rfl) gU Try.underlying48 Try.underlying5 Try.underlying9) ?_
    refine dr_loadRow rfl rfl rfl rfl rfl rfl rfl gU rfl rfl rfl rfl rfl ?_
    refine dr_pure rfl rfl rfl rfl (pure_assign rfl gU) ?_
    refine dr_store rfl rfl rfl rfl rfl rfl rfl rfl rfl rfl rfl rfl ?_
    refine dr_nil (by kernel_rfl) ?_
    refine awp_ret ?_
    repeat (first | refine tR ?_ | refine bR ?_)
    refine ret_ok rfl ?_ trivial
    have : ((a : Int) + (k : Int)) = ((a + k : Nat) : Int) := by omega
    rw [show sc b (a + k) = [C.sl 1 (bytesR b), C.i .i64 ((a : Int) + (k : Int))] by rw [this]]
    rfl
def lim (a0 k : Nat) : Nat := a0 + 7000 * k
theorem lim_zero (a0 : Nat) : a0 ≤ lim a0 0 := by unfold lim; omega
theorem lim_succ (a0 k : Nat) : lim a0 (k + 1) = lim a0 k + 7000 := by unfold lim; omega
theorem lim_le {a0 k : Nat} (h : k ≤ 6) : lim a0 k ≤ a0 + 42000 := by unfold lim; omega
theorem rsample_gen (t : List Fm) (i : Int) (b : List UInt8) (a0 : Nat) (rec : Int → Nat → V × Nat) (hi : 0 ≤ i ∧ i < t.length) (hb : b.length ≤ 100000) (ha0 : a0 ≤ 50000) (hl6 : (t.getD i.toNat default).fields.length ≤ 6)
    (hfd : ∀ k, k < (t.getD i.toNat default).fields.length → FdOk ((t.getD i.toNat default).fields.getD k default))
    (hrl5 : ∀ k, k < (t.getD i.toNat default).fields.length → ((t.getD i.toNat default).fields.getD k default).kind = 5 → ∀ a, (rec ((t.getD i.toNat default).fields.getD k default).n a).2 ≤ a + 7000)
    (hrec : ∀ k, k < (t.getD i.toNat default).fields.length → ((t.getD i.toNat default).fields.getD k default).kind = 5 → ∀ a : Nat, a ≤ a0 + 42000 → Ctr sys 48 [xtab t, xi ((t.getD i.toNat default).fields.getD k default).n, .v (.agg (sc b a))] []
      (.tup [.agg (rec ((t.getD i.toNat default).fields.getD k default).n a).1.cells, .agg (sc b (rec ((t.getD i.toNat default).fields.getD k default).n a).2)]) none []) :
    Ctr sys 48 [xtab t, xi i, .v (.agg (sc b a0))] [] (.tup [.agg (smpL rec b (t.getD i.toNat default).fields [] a0).1.cells, .agg (sc b (smpL rec b (t.getD i.toNat default).fields [] a0).2)]) none [] := by
  have hrl := Fm.rows_len t
  have hrf := Fd.rows_len (t.getD i.toNat default).fields
  refine spec_intro Try.func48 rfl rfl rfl rfl rfl rfl ?_
  refine awp_seq (awp_region ?_)
  refine al_do rfl (does_box rfl rfl rfl rfl) ?_
  refine al_do rfl (does_alloc rfl rfl rfl) ?_
  refine al_do rfl (does_alloc rfl rfl rfl) ?_
  refine al_nil ?_
  refine awp_seq (awp_region ?_)
  refine al_do rfl (does_allocX rfl rfl rfl rfl) ?_
  refine al_nil ?_
  refine awp_seq ?_
  refine awp_seq (awp_region ?_)
  refine al_pure rfl rfl rfl (pure_assign rfl gU) ?_
  refine al_nil ?_
  refine awp_sub (s := { t := [(0, _, _), (1, _, _), (5, _, _), (6, _, _), (7, _, _), (8, _, _), (9, _, _)], bx := [((.l 5), _), ((.l 6), _), ((.l 7), _), ((.l 8), _)], ow := [] }) (sub_mk (⟨sx rfl, ⟨sx rfl, ⟨sx rfl, ⟨sx rfl, ⟨sx rfl, ⟨sx rfl, ⟨sx rfl, trivial⟩⟩⟩⟩⟩⟩⟩) (⟨sx rfl, ⟨sx rfl, ⟨sx rfl, ⟨sx rfl, trivial⟩⟩⟩⟩) trivial) ?_
  refine awp_block ?_
  refine awp_own (.l 8) 2 3 rfl rfl rfl ?_
  refine awp_for (ι := Nat × List V × Nat) { t := [(0, _, _), (1, _, _), (5, _, _), (6, _, _), (7, _, _), (8, _, _)], bx := [((.l 6), _), ((.l 7), _)], ow := [((.b (.l 8) 2), _)] } (fun p => [(9, true, xi (p.1 : Int))]) (fun p => [((.l 8), [.s [], .i .i64 0, .sl 3 (V.rows p.2.1)]), ((.l 5), sc b p.2.2)]) (fun p => p.1 ≤ (t.getD i.toNat default).fields.length ∧ p.2.1.length ≤ p.1 ∧ p.2.2 ≤ lim a0 p.1 ∧ smpL rec b ((t.getD i.toNat default).fields.drop p.1) p.2.1 p.2.2 = smpL rec b (t.getD i.toNat default).fields [] a0) (fun p => (t.getD i.toNat default).fields.length - p.1) ((0, [], a0)) (⟨by simp, by simp, lim_zero a0, rfl⟩) (sub_mk (⟨sx rfl, ⟨sx rfl, ⟨sx rfl, ⟨sx rfl, ⟨sx rfl, ⟨sx rfl, ⟨sx rfl, trivial⟩⟩⟩⟩⟩⟩⟩) (⟨sx rfl, ⟨sx rfl, ⟨sx rfl, ⟨sx rfl, trivial⟩⟩⟩⟩) (⟨rfl, trivial⟩)) ?_
  intro p hok
  dsimp only [List.cons_append, List.nil_append] at *
  obtain ⟨k, vs, a⟩ := p
  dsimp only at hok ⊢
  obtain ⟨hk, hvk, hak, hinv⟩ := hok
  have hvr := V.rows_len vs
  refine awp_seq ?_
  refine awp_seq (awp_region ?_)
  refine al_pure rfl rfl rfl (pure_move rfl gU) ?_
  refine al_pure rfl rfl rfl (pure_move rfl gU) ?_
  refine al_pure rfl rfl rfl (pure_move rfl gU) ?_
  refine al_pure rfl rfl rfl (pure_indexAddr (j := i.toNat) rfl rfl gU gU rfl rfl (by first | omega | (simp at hh; omega)) (fun hh => Fm.rows_at (by first | omega | (simp at hh; omega)))) ?_
  refine al_pure rfl rfl rfl (pure_fieldRo rfl gU rfl rfl) ?_
  refine al_pure rfl rfl rfl (pure_loadRo rfl gU rfl rfl rfl) ?_
  refine al_lenSl rfl rfl rfl rfl rfl gU rfl rfl ?_ (fun hh => by simp at hh); intro hlen
  refine al_pure rfl rfl rfl (pure_cmp rfl rfl gU gU rfl) ?_
  refine al_nil ?_
  refine awp_sub (s := { t := [(0, _, _), (1, _, _), (5, _, _), (6, _, _), (7, _, _), (8, _, _), (9, _, _), (20, _, _)], bx := [((.l 5), _), ((.l 6), _), ((.l 7), _), ((.l 8), _)], ow := [((.b (.l 8) 2), _)] }) (sub_mk (⟨sx rfl, ⟨sx rfl, ⟨sx rfl, ⟨sx rfl, ⟨sx rfl, ⟨sx rfl, ⟨sx rfl, ⟨sx rfl, trivial⟩⟩⟩⟩⟩⟩⟩⟩) (⟨sx rfl, ⟨sx rfl, ⟨sx rfl, ⟨sx rfl, trivial⟩⟩⟩⟩) (⟨rfl, trivial⟩)) ?_
  refine awp_cond rfl (fun hc => ?_) (fun hc => ?_)
  · try simp only [nn, Fd.rows_len, Fm.rows_len, V.rows_len, bytesR_len] at hc
    have hlm := lim_le (a0 := a0) (k := k) (by omega)
    have hre := hrec k (by omega)
    have hfl := smpF_le (rec := rec) (b := b) (a := a) (M := 7000) (hfd k (by omega)) (by omega) fun h5 => hrl5 k (by omega) h5 a
    obtain ⟨k1, k2, k3, k4, k5, k6, k7⟩ := hfd k (by omega)
    rw [drop_getD (l := (t.getD i.toNat default).fields) (by omega), smpL] at hinv
    have hs1 := someA_len b a 1
    have hs : ((someA b a 1).getD 0 0).toNat = hd b a := by rw [someA_get (by omega)]; rfl
    have hu : hd b a < 256 := (b.getD a 0).toNat_lt
    have m1 : (0 : Int) ≤ (((someA b a 1).getD 0 0).toNat : Int) % (((t.getD i.toNat default).fields.getD k default).n + 1) ∧ (((someA b a 1).getD 0 0).toNat : Int) % (((t.getD i.toNat default).fields.getD k default).n + 1) ≤ 15 := by
      have := mod_le (hd b a) (n := ((t.getD i.toNat default).fields.getD k default).n.toNat + 1) (by omega)
      rw [hs, mod_int k3.1]; omega
    have m2 : (0 : Int) ≤ (((someA b a 1).getD 0 0).toNat : Int) % (((t.getD i.toNat default).fields.getD k default).high - ((t.getD i.toNat default).fields.getD k default).low + 1) ∧ (((someA b a 1).getD 0 0).toNat : Int) % (((t.getD i.toNat default).fields.getD k default).high - ((t.getD i.toNat default).fields.getD k default).low + 1) ≤ ((t.getD i.toNat default).fields.getD k default).high - ((t.getD i.toNat default).fields.getD k default).low := by
      have := mod_le (hd b a) (n := (((t.getD i.toNat default).fields.getD k default).high - ((t.getD i.toNat default).fields.getD k default).low + 1).toNat) (by omega)
      rw [hs, mod_int2 k6]; omega
    have mn1 : hd b a % (((t.getD i.toNat default).fields.getD k default).n.toNat + 1) ≤ 15 := by have := mod_le (hd b a) (n := ((t.getD i.toNat default).fields.getD k default).n.toNat + 1) (by omega); omega
    have mn2 : hd b a % (((t.getD i.toNat default).fields.getD k default).high - ((t.getD i.toNat default).fields.getD k default).low + 1).toNat ≤ 1000 := by have := mod_le (hd b a) (n := (((t.getD i.toNat default).fields.getD k default).high - ((t.getD i.toNat default).fields.getD k default).low + 1).toNat) (by omega); omega
    refine awp_skip ?_
    refine awp_seq ?_
    refine awp_block ?_
    refine awp_seq (awp_region ?_)
    refine al_pure rfl rfl rfl (pure_move rfl gU) ?_
    refine al_pure rfl rfl rfl (pure_move rfl gU) ?_
    refine al_pure rfl rfl rfl (pure_indexAddr (j := i.toNat) rfl rfl gU gU rfl rfl (by first | omega | (simp at hh; omega)) (fun hh => Fm.rows_at (by first | omega | (simp at hh; omega)))) ?_
    refine al_pure rfl rfl rfl (pure_fieldRo rfl gU rfl rfl) ?_
    refine al_pure rfl rfl rfl (pure_loadRo rfl gU rfl rfl rfl) ?_
    refine al_pure rfl rfl rfl (pure_move rfl gU) ?_
    refine al_pure rfl rfl rfl (pure_indexAddr rfl rfl gU gU rfl rfl rfl (fun hh => Fd.rows_at (by first | omega | (simp at hh; omega)))) ?_
    refine al_pure rfl rfl rfl (pure_loadRoRow rfl gU rfl rfl rfl rfl) ?_
    refine al_do rfl (does_alloc rfl rfl rfl) ?_
    refine al_do rfl (does_store rfl rfl rfl rfl rfl rfl rfl) ?_
    refine al_nil ?_
    refine awp_sub (s := { t := [(0, _, _), (1, _, _), (5, _, _), (6, _, _), (7, _, _), (8, _, _), (9, _, _), (10, _, _)], bx := [((.l 10), _), ((.l 5), _), ((.l 6), _), ((.l 7), _), ((.l 8), _)], ow := [((.b (.l 8) 2), _)] }) (sub_mk (⟨sx rfl, ⟨sx rfl, ⟨sx rfl, ⟨sx rfl, ⟨sx rfl, ⟨sx rfl, ⟨sx rfl, ⟨sx rfl, trivial⟩⟩⟩⟩⟩⟩⟩⟩) (⟨sx rfl, ⟨sx rfl, ⟨sx rfl, ⟨sx rfl, ⟨sx rfl, trivial⟩⟩⟩⟩⟩) (⟨rfl, trivial⟩)) ?_
    refine awp_seq (awp_region ?_)
    refine al_do rfl (does_alloc rfl rfl rfl) ?_
    refine al_nil ?_
    refine awp_seq (awp_region ?_)
    refine al_pure rfl rfl rfl (pure_assign rfl gU) ?_
    refine al_nil ?_
    refine awp_seq ?_
    refine awp_seq (awp_region ?_)
    refine al_pure rfl rfl rfl (pure_fieldPtr rfl gU rfl rfl) ?_
    refine al_pure rfl rfl rfl (pure_loadBox rfl gU rfl rfl rfl rfl) ?_
    refine al_nil ?_
    refine awp_block ?_
    refine awp_seq (awp_region ?_)
    refine al_pure rfl rfl rfl (pure_cmp rfl rfl gU gU rfl) ?_
    refine al_pure rfl rfl rfl (pure_assign rfl gU) ?_
    refine al_nil ?_
    refine awp_sub (s := { t := [(0, _, _), (1, _, _), (5, _, _), (6, _, _), (7, _, _), (8, _, _), (9, _, _), (10, _, _), (11, _, _), (32, _, _), (33, _, _)], bx := [((.l 10), _), ((.l 11), _), ((.l 5), _), ((.l 6), _), ((.l 7), _), ((.l 8), _)], ow := [((.b (.l 8) 2), _)] }) (sub_mk (⟨sx rfl, ⟨sx rfl, ⟨sx rfl, ⟨sx rfl, ⟨sx rfl, ⟨sx rfl, ⟨sx rfl, ⟨sx rfl, ⟨sx rfl, ⟨sx rfl, ⟨sx rfl, trivial⟩⟩⟩⟩⟩⟩⟩⟩⟩⟩⟩) (⟨sx rfl, ⟨sx rfl, ⟨sx rfl, ⟨sx rfl, ⟨sx rfl, ⟨sx rfl, trivial⟩⟩⟩⟩⟩⟩) (⟨rfl, trivial⟩)) ?_
    refine awp_cond rfl (fun hcd => ?_) (fun hcd => ?_)
    · try simp only [nn, Fd.rows_len, Fm.rows_len, V.rows_len, bytesR_len] at hcd
      have hF : smpF rec b ((t.getD i.toNat default).fields.getD k default) a = (bv (someA b a ((t.getD i.toNat default).fields.getD k default).n.toNat), a + ((t.getD i.toNat default).fields.getD k default).n.toNat) := by unfold smpF; rw [if_pos hcd]
      refine awp_region ?_
      refine al_pure rfl rfl rfl (pure_loadBoxRow rfl gU rfl rfl rfl rfl rfl) ?_
      refine al_pure rfl rfl rfl (pure_fieldPtr rfl gU rfl rfl) ?_
      refine al_pure rfl rfl rfl (pure_loadBox rfl gU rfl rfl rfl rfl) ?_
      refine al_call rfl rfl rfl rfl rfl rfl gU gU (rnext_spec b a ((t.getD i.toNat default).fields.getD k default).n.toNat ((t.getD i.toNat default).fields.getD k default).n (by omega) hb (by omega) (by omega)) rfl ?_
      refine al_pure rfl rfl rfl (pure_move rfl gU) ?_
      refine al_pure rfl rfl rfl (pure_extract rfl gU rfl) ?_
      refine al_pure rfl rfl rfl (pure_extract rfl gU rfl) ?_
      refine al_pure rfl rfl rfl (pure_fieldPtr rfl gU rfl rfl) ?_
      refine al_do rfl (does_store rfl rfl rfl rfl rfl rfl rfl) ?_
      refine al_do rfl (does_store rfl rfl rfl rfl rfl rfl rfl) ?_
      refine al_nil ?_
      refine awp_sub (s := { t := [(0, _, _), (1, _, _), (5, _, _), (6, _, _), (7, _, _), (8, _, _), (9, _, _), (11, _, _)], bx := [((.l 11), _), ((.l 5), _), ((.l 6), _), ((.l 7), _), ((.l 8), _)], ow := [((.b (.l 8) 2), _)] }) (sub_mk (⟨sx rfl, ⟨sx rfl, ⟨sx rfl, ⟨sx rfl, ⟨sx rfl, ⟨sx rfl, ⟨sx rfl, ⟨sx rfl, trivial⟩⟩⟩⟩⟩⟩⟩⟩) (⟨sx rfl, ⟨sx rfl, ⟨sx rfl, ⟨sx rfl, ⟨sx rfl, trivial⟩⟩⟩⟩⟩) (⟨rfl, trivial⟩)) ?_
      refine awp_region ?_
      refine al_pure rfl rfl rfl (pure_fieldPtr rfl gU rfl rfl) ?_
      refine al_do rfl (does_loadTake rfl rfl rfl rfl rfl rfl rfl) ?_
      refine al_pure rfl rfl rfl (pure_loadBoxRow rfl gU rfl rfl rfl rfl rfl) ?_
      refine al_buildSlice (xs := [_]) rfl rfl rfl rfl rfl rfl rfl rfl rfl gU rfl ?_
      refine al_do rfl (does_append rfl rfl rfl rfl rfl rfl rfl (by simp [V.rows_len]; omega) (by simp [V.rows_len]; omega)) ?_
      refine al_pure rfl rfl rfl (pure_fieldPtr rfl gU rfl rfl) ?_
      refine al_do rfl (does_storeOwn rfl rfl rfl rfl rfl rfl rfl) ?_
      refine al_nil ?_
      refine awp_sub (s := { t := [(0, _, _), (1, _, _), (5, _, _), (6, _, _), (7, _, _), (8, _, _), (9, _, _)], bx := [((.l 5), _), ((.l 6), _), ((.l 7), _), ((.l 8), _)], ow := [((.b (.l 8) 2), _)] }) (sub_mk (⟨sx rfl, ⟨sx rfl, ⟨sx rfl, ⟨sx rfl, ⟨sx rfl, ⟨sx rfl, ⟨sx rfl, trivial⟩⟩⟩⟩⟩⟩⟩) (⟨sx rfl, ⟨sx rfl, ⟨sx rfl, ⟨sx rfl, trivial⟩⟩⟩⟩) (⟨rfl, trivial⟩)) ?_
      refine awp_region ?_
      refine al_pure rfl rfl rfl (pure_move rfl gU) ?_
      refine al_pure rfl rfl rfl (pure_arith rfl rfl gU gU rfl (IntWalk.i64_in _ (by omega))) ?_
      refine al_pure rfl rfl rfl (pure_assign rfl gU) ?_
      refine al_nil ?_
      refine ⟨(k + 1, vs ++ [(smpF rec b ((t.getD i.toNat default).fields.getD k default) a).1], (smpF rec b ((t.getD i.toNat default).fields.getD k default) a).2), ?_, ?_, sub_mk (⟨⟨_, rfl, ?_⟩, ⟨sx rfl, ⟨sx rfl, ⟨sx rfl, ⟨sx rfl, ⟨sx rfl, ⟨sx rfl, trivial⟩⟩⟩⟩⟩⟩⟩) (⟨⟨_, rfl, ?_⟩, ⟨⟨_, rfl, ?_⟩, ⟨sx rfl, ⟨sx rfl, trivial⟩⟩⟩⟩) (⟨rfl, trivial⟩)⟩
      · exact ⟨by dsimp only; omega, by simp; omega, (show (smpF rec b ((t.getD i.toNat default).fields.getD k default) a).2 ≤ lim a0 (k + 1) by rw [lim_succ]; omega), hinv⟩
      · dsimp only; omega
      · rfl
      · exact kid_eq (by rw [hF]; rfl)
      · first | (rw [hF]; done) | (rw [hF]; rfl)
    · try simp only [nn, Fd.rows_len, Fm.rows_len, V.rows_len, bytesR_len] at hcd
      refine awp_seq (awp_region ?_)
      refine al_pure rfl rfl rfl (pure_cmp rfl rfl gU gU rfl) ?_
      refine al_pure rfl rfl rfl (pure_assign rfl gU) ?_
      refine al_nil ?_
      refine awp_cond rfl (fun hce => ?_) (fun hce => ?_)
      · try simp only [nn, Fd.rows_len, Fm.rows_len, V.rows_len, bytesR_len] at hce
        have hF : smpF rec b ((t.getD i.toNat default).fields.getD k default) a = (bv (someA b (a + 1) (hd b a % (((t.getD i.toNat default).fields.getD k default).n.toNat + 1))), a + 1 + hd b a % (((t.getD i.toNat default).fields.getD k default).n.toNat + 1)) := by unfold smpF; rw [if_neg hcd, if_pos hce]
        refine awp_seq (awp_region ?_)
        refine al_pure rfl rfl rfl (pure_loadBoxRow rfl gU rfl rfl rfl rfl rfl) ?_
        refine al_call rfl rfl rfl rfl rfl rfl gU gU (rnext_spec b a 1 _ rfl hb (by omega) (by omega)) rfl ?_
        refine al_pure rfl rfl rfl (pure_move rfl gU) ?_
        refine al_pure rfl rfl rfl (pure_extract rfl gU rfl) ?_
        refine al_pure rfl rfl rfl (pure_extract rfl gU rfl) ?_
        refine al_pure rfl rfl rfl (pure_assign rfl gU) ?_
        refine al_do rfl (does_store rfl rfl rfl rfl rfl rfl rfl) ?_
        refine al_nil ?_
        refine awp_sub (s := { t := [(0, _, _), (1, _, _), (5, _, _), (6, _, _), (7, _, _), (8, _, _), (9, _, _), (10, _, _), (11, _, _), (12, _, _)], bx := [((.l 10), _), ((.l 11), _), ((.l 5), _), ((.l 6), _), ((.l 7), _), ((.l 8), _)], ow := [((.b (.l 8) 2), _)] }) (sub_mk (⟨sx rfl, ⟨sx rfl, ⟨sx rfl, ⟨sx rfl, ⟨sx rfl, ⟨sx rfl, ⟨sx rfl, ⟨sx rfl, ⟨sx rfl, ⟨sx rfl, trivial⟩⟩⟩⟩⟩⟩⟩⟩⟩⟩) (⟨sx rfl, ⟨sx rfl, ⟨sx rfl, ⟨sx rfl, ⟨sx rfl, ⟨sx rfl, trivial⟩⟩⟩⟩⟩⟩) (⟨rfl, trivial⟩)) ?_
        refine awp_drawn' (by kernel_rfl) ?_
        refine dr_loadRow rfl rfl rfl rfl rfl rfl rfl gU rfl rfl rfl rfl rfl ?_
        refine dr_pure rfl rfl rfl rfl (pure_move rfl gU) ?_
        refine dr_pure rfl rfl rfl rfl (pure_indexSg (j := 0) rfl rfl gU gU Try.underlying9 (by first | omega | (simp at hh; omega)) (fun hh => by first | omega | (simp at hh; omega))) ?_
        refine dr_pure rfl rfl rfl rfl (pure_convInt rfl gU ⟨_, Try.underlying5⟩ (Try.underlying3) (IntWalk.i64_in _ (by omega))) ?_
        refine dr_pure rfl rfl rfl rfl (pure_fieldPtr rfl gU rfl rfl) ?_
        refine dr_load rfl rfl rfl rfl rfl rfl rfl gU rfl rfl rfl rfl ?_
        refine dr_pure rfl rfl rfl rfl (pure_arith rfl rfl gU gU rfl (IntWalk.i64_in _ (by omega))) ?_
        refine dr_pure rfl rfl rfl rfl (pure_remG rfl rfl gU gU (fun hh => by first | omega | (simp at hh; omega)) (fun hh => Int.tmod_eq_emod_of_nonneg (by first | omega | (simp at hh; omega)))) ?_
        refine dr_callN rfl rfl rfl rfl rfl rfl rfl gU gU (rnext_spec b (a + 1) (hd b a % (((t.getD i.toNat default).fields.getD k default).n.toNat + 1)) ((((someA b a 1).getD 0 0).toNat : Int) % (((t.getD i.toNat default).fields.getD k default).n + 1)) (by rw [hs]; exact mod_int k3.1) hb (by omega) (by omega)) rfl ?_
        refine dr_pure rfl rfl rfl rfl (pure_move rfl gU) ?_
        refine dr_pure rfl rfl rfl rfl (pure_extract rfl gU rfl) ?_
        refine dr_pure rfl rfl rfl rfl (pure_extract rfl gU rfl) ?_
        refine dr_pure rfl rfl rfl rfl (pure_fieldPtr rfl gU rfl rfl) ?_
        refine dr_store rfl rfl rfl rfl rfl rfl rfl rfl rfl rfl rfl rfl ?_
        refine dr_store rfl rfl rfl rfl rfl rfl rfl rfl rfl rfl rfl rfl ?_
        refine dr_nil (by kernel_rfl) ?_
        refine awp_sub (s := { t := [(0, _, _), (1, _, _), (5, _, _), (6, _, _), (7, _, _), (8, _, _), (9, _, _), (11, _, _)], bx := [((.l 11), _), ((.l 5), _), ((.l 6), _), ((.l 7), _), ((.l 8), _)], ow := [((.b (.l 8) 2), _)] }) (sub_mk (⟨sx rfl, ⟨sx rfl, ⟨sx rfl, ⟨sx rfl, ⟨sx rfl, ⟨sx rfl, ⟨sx rfl, ⟨sx rfl, trivial⟩⟩⟩⟩⟩⟩⟩⟩) (⟨sx rfl, ⟨sx rfl, ⟨sx rfl, ⟨sx rfl, ⟨sx rfl, trivial⟩⟩⟩⟩⟩) (⟨(ak rfl (ak rfl (ak rfl (ak rfl (ak rfl (ak rfl (ak rfl (ak rfl (ak rfl (ak rfl (ak rfl (ak rfl (ak rfl (ak rfl (ak rfl (rfl)))))))))))))))), trivial⟩)) ?_
        refine awp_region ?_
        refine al_pure rfl rfl rfl (pure_fieldPtr rfl gU rfl rfl) ?_
        refine al_do rfl (does_loadTake rfl rfl rfl rfl rfl rfl rfl) ?_
        refine al_pure rfl rfl rfl (pure_loadBoxRow rfl gU rfl rfl rfl rfl rfl) ?_
        refine al_buildSlice (xs := [_]) rfl rfl rfl rfl rfl rfl rfl rfl rfl gU rfl ?_
        refine al_do rfl (does_append rfl rfl rfl rfl rfl rfl rfl (by simp [V.rows_len]; omega) (by simp [V.rows_len]; omega)) ?_
        refine al_pure rfl rfl rfl (pure_fieldPtr rfl gU rfl rfl) ?_
        refine al_do rfl (does_storeOwn rfl rfl rfl rfl rfl rfl rfl) ?_
        refine al_nil ?_
        refine awp_sub (s := { t := [(0, _, _), (1, _, _), (5, _, _), (6, _, _), (7, _, _), (8, _, _), (9, _, _)], bx := [((.l 5), _), ((.l 6), _), ((.l 7), _), ((.l 8), _)], ow := [((.b (.l 8) 2), _)] }) (sub_mk (⟨sx rfl, ⟨sx rfl, ⟨sx rfl, ⟨sx rfl, ⟨sx rfl, ⟨sx rfl, ⟨sx rfl, trivial⟩⟩⟩⟩⟩⟩⟩) (⟨sx rfl, ⟨sx rfl, ⟨sx rfl, ⟨sx rfl, trivial⟩⟩⟩⟩) (⟨rfl, trivial⟩)) ?_
        refine awp_region ?_
        refine al_pure rfl rfl rfl (pure_move rfl gU) ?_
        refine al_pure rfl rfl rfl (pure_arith rfl rfl gU gU rfl (IntWalk.i64_in _ (by omega))) ?_
        refine al_pure rfl rfl rfl (pure_assign rfl gU) ?_
        refine al_nil ?_
        refine ⟨(k + 1, vs ++ [(smpF rec b ((t.getD i.toNat default).fields.getD k default) a).1], (smpF rec b ((t.getD i.toNat default).fields.getD k default) a).2), ?_, ?_, sub_mk (⟨⟨_, rfl, ?_⟩, ⟨sx rfl, ⟨sx rfl, ⟨sx rfl, ⟨sx rfl, ⟨sx rfl, ⟨sx rfl, trivial⟩⟩⟩⟩⟩⟩⟩) (⟨⟨_, rfl, ?_⟩, ⟨⟨_, rfl, ?_⟩, ⟨sx rfl, ⟨sx rfl, trivial⟩⟩⟩⟩) (⟨rfl, trivial⟩)⟩
        · exact ⟨by dsimp only; omega, by simp; omega, (show (smpF rec b ((t.getD i.toNat default).fields.getD k default) a).2 ≤ lim a0 (k + 1) by rw [lim_succ]; omega), hinv⟩
        · dsimp only; omega
        · rfl
        · exact kid_eq (by rw [hF]; rfl)
        · first | (rw [hF]; done) | (rw [hF]; rfl)
      · try simp only [nn, Fd.rows_len, Fm.rows_len, V.rows_len, bytesR_len] at hce
        refine awp_seq (awp_region ?_)
        refine al_pure rfl rfl rfl (pure_cmp rfl rfl gU gU rfl) ?_
        refine al_pure rfl rfl rfl (pure_assign rfl gU) ?_
        refine al_nil ?_
        refine awp_cond rfl (fun hcg => ?_) (fun hcg => ?_)
        · try simp only [nn, Fd.rows_len, Fm.rows_len, V.rows_len, bytesR_len] at hcg
          have hF : smpF rec b ((t.getD i.toNat default).fields.getD k default) a = (.mk [] (((t.getD i.toNat default).fields.getD k default).low + (hd b a % (((t.getD i.toNat default).fields.getD k default).high - ((t.getD i.toNat default).fields.getD k default).low + 1).toNat : Nat)) [], a + 1) := by unfold smpF; rw [if_neg hcd, if_neg hce, if_pos hcg]
          have hm := mod_int2 (x := hd b a) k6
          refine awp_seq (awp_region ?_)
          refine al_pure rfl rfl rfl (pure_loadBoxRow rfl gU rfl rfl rfl rfl rfl) ?_
          refine al_call rfl rfl rfl rfl rfl rfl gU gU (rnext_spec b a 1 _ rfl hb (by omega) (by omega)) rfl ?_
          refine al_pure rfl rfl rfl (pure_move rfl gU) ?_
          refine al_pure rfl rfl rfl (pure_extract rfl gU rfl) ?_
          refine al_pure rfl rfl rfl (pure_extract rfl gU rfl) ?_
          refine al_pure rfl rfl rfl (pure_assign rfl gU) ?_
          refine al_do rfl (does_store rfl rfl rfl rfl rfl rfl rfl) ?_
          refine al_nil ?_
          refine awp_sub (s := { t := [(0, _, _), (1, _, _), (5, _, _), (6, _, _), (7, _, _), (8, _, _), (9, _, _), (10, _, _), (11, _, _), (12, _, _)], bx := [((.l 10), _), ((.l 11), _), ((.l 5), _), ((.l 6), _), ((.l 7), _), ((.l 8), _)], ow := [((.b (.l 8) 2), _)] }) (sub_mk (⟨sx rfl, ⟨sx rfl, ⟨sx rfl, ⟨sx rfl, ⟨sx rfl, ⟨sx rfl, ⟨sx rfl, ⟨sx rfl, ⟨sx rfl, ⟨sx rfl, trivial⟩⟩⟩⟩⟩⟩⟩⟩⟩⟩) (⟨sx rfl, ⟨sx rfl, ⟨sx rfl, ⟨sx rfl, ⟨sx rfl, ⟨sx rfl, trivial⟩⟩⟩⟩⟩⟩) (⟨rfl, trivial⟩)) ?_
          refine awp_drawn' (by kernel_rfl) ?_
          refine dr_pure rfl rfl rfl rfl (pure_fieldPtr rfl gU rfl rfl) ?_
          refine dr_load rfl rfl rfl rfl rfl rfl rfl gU rfl rfl rfl rfl ?_
          refine dr_pure rfl rfl rfl rfl (pure_move rfl gU) ?_
          refine dr_pure rfl rfl rfl rfl (pure_indexSg (j := 0) rfl rfl gU gU Try.underlying9 (by first | omega | (simp at hh; omega)) (fun hh => by first | omega | (simp at hh; omega))) ?_
          refine dr_pure rfl rfl rfl rfl (pure_convInt rfl gU ⟨_, Try.underlying5⟩ (Try.underlying3) (IntWalk.i64_in _ (by omega))) ?_
          refine dr_pure rfl rfl rfl rfl (pure_fieldPtr rfl gU rfl rfl) ?_
          refine dr_load rfl rfl rfl rfl rfl rfl rfl gU rfl rfl rfl rfl ?_
          refine dr_pure rfl rfl rfl rfl (pure_fieldPtr rfl gU rfl rfl) ?_
          refine dr_load rfl rfl rfl rfl rfl rfl rfl gU rfl rfl rfl rfl ?_
          refine dr_pure rfl rfl rfl rfl (pure_arith rfl rfl gU gU rfl (IntWalk.i64_in _ (by omega))) ?_
          refine dr_pure rfl rfl rfl rfl (pure_arith rfl rfl gU gU rfl (IntWalk.i64_in _ (by omega))) ?_
          refine dr_pure rfl rfl rfl rfl (pure_remG rfl rfl gU gU (fun hh => by first | omega | (simp at hh; omega)) (fun hh => Int.tmod_eq_emod_of_nonneg (by first | omega | (simp at hh; omega)))) ?_
          refine dr_pure rfl rfl rfl rfl (pure_arith rfl rfl gU gU rfl (IntWalk.i64_in _ (by omega))) ?_
          refine dr_pure rfl rfl rfl rfl (pure_fieldPtr rfl gU rfl rfl) ?_
          refine dr_store rfl rfl rfl rfl rfl rfl rfl rfl rfl rfl rfl rfl ?_
          refine dr_nil (by kernel_rfl) ?_
          refine awp_sub (s := { t := [(0, _, _), (1, _, _), (5, _, _), (6, _, _), (7, _, _), (8, _, _), (9, _, _), (11, _, _)], bx := [((.l 11), _), ((.l 5), _), ((.l 6), _), ((.l 7), _), ((.l 8), _)], ow := [((.b (.l 8) 2), _)] }) (sub_mk (⟨sx rfl, ⟨sx rfl, ⟨sx rfl, ⟨sx rfl, ⟨sx rfl, ⟨sx rfl, ⟨sx rfl, ⟨sx rfl, trivial⟩⟩⟩⟩⟩⟩⟩⟩) (⟨sx rfl, ⟨sx rfl, ⟨sx rfl, ⟨sx rfl, ⟨sx rfl, trivial⟩⟩⟩⟩⟩) (⟨(ak rfl (ak rfl (ak rfl (ak rfl (ak rfl (ak rfl (ak rfl (ak rfl (ak rfl (ak rfl (ak rfl (ak rfl (ak rfl (ak rfl (ak rfl (rfl)))))))))))))))), trivial⟩)) ?_
          refine awp_region ?_
          refine al_pure rfl rfl rfl (pure_fieldPtr rfl gU rfl rfl) ?_
          refine al_do rfl (does_loadTake rfl rfl rfl rfl rfl rfl rfl) ?_
          refine al_pure rfl rfl rfl (pure_loadBoxRow rfl gU rfl rfl rfl rfl rfl) ?_
          refine al_buildSlice (xs := [_]) rfl rfl rfl rfl rfl rfl rfl rfl rfl gU rfl ?_
          refine al_do rfl (does_append rfl rfl rfl rfl rfl rfl rfl (by simp [V.rows_len]; omega) (by simp [V.rows_len]; omega)) ?_
          refine al_pure rfl rfl rfl (pure_fieldPtr rfl gU rfl rfl) ?_
          refine al_do rfl (does_storeOwn rfl rfl rfl rfl rfl rfl rfl) ?_
          refine al_nil ?_
          refine awp_sub (s := { t := [(0, _, _), (1, _, _), (5, _, _), (6, _, _), (7, _, _), (8, _, _), (9, _, _)], bx := [((.l 5), _), ((.l 6), _), ((.l 7), _), ((.l 8), _)], ow := [((.b (.l 8) 2), _)] }) (sub_mk (⟨sx rfl, ⟨sx rfl, ⟨sx rfl, ⟨sx rfl, ⟨sx rfl, ⟨sx rfl, ⟨sx rfl, trivial⟩⟩⟩⟩⟩⟩⟩) (⟨sx rfl, ⟨sx rfl, ⟨sx rfl, ⟨sx rfl, trivial⟩⟩⟩⟩) (⟨rfl, trivial⟩)) ?_
          refine awp_region ?_
          refine al_pure rfl rfl rfl (pure_move rfl gU) ?_
          refine al_pure rfl rfl rfl (pure_arith rfl rfl gU gU rfl (IntWalk.i64_in _ (by omega))) ?_
          refine al_pure rfl rfl rfl (pure_assign rfl gU) ?_
          refine al_nil ?_
          refine ⟨(k + 1, vs ++ [(smpF rec b ((t.getD i.toNat default).fields.getD k default) a).1], (smpF rec b ((t.getD i.toNat default).fields.getD k default) a).2), ?_, ?_, sub_mk (⟨⟨_, rfl, ?_⟩, ⟨sx rfl, ⟨sx rfl, ⟨sx rfl, ⟨sx rfl, ⟨sx rfl, ⟨sx rfl, trivial⟩⟩⟩⟩⟩⟩⟩) (⟨⟨_, rfl, ?_⟩, ⟨⟨_, rfl, ?_⟩, ⟨sx rfl, ⟨sx rfl, trivial⟩⟩⟩⟩) (⟨rfl, trivial⟩)⟩
          · exact ⟨by dsimp only; omega, by simp; omega, (show (smpF rec b ((t.getD i.toNat default).fields.getD k default) a).2 ≤ lim a0 (k + 1) by rw [lim_succ]; omega), hinv⟩
          · dsimp only; omega
          · rfl
          · exact kid_eq (by rw [hF, ← hm, ← hs]; rfl)
          · first | (rw [hF]; done) | (rw [hF]; rfl)
        · try simp only [nn, Fd.rows_len, Fm.rows_len, V.rows_len, bytesR_len] at hcg
          refine awp_seq (awp_region ?_)
          refine al_pure rfl rfl rfl (pure_cmp rfl rfl gU gU rfl) ?_
          refine al_pure rfl rfl rfl (pure_assign rfl gU) ?_
          refine al_nil ?_
          refine awp_sub (s := { t := [(0, _, _), (1, _, _), (5, _, _), (6, _, _), (7, _, _), (8, _, _), (9, _, _), (10, _, _), (11, _, _), (32, _, _), (84, _, _)], bx := [((.l 10), _), ((.l 11), _), ((.l 5), _), ((.l 6), _), ((.l 7), _), ((.l 8), _)], ow := [((.b (.l 8) 2), _)] }) (sub_mk (⟨sx rfl, ⟨sx rfl, ⟨sx rfl, ⟨sx rfl, ⟨sx rfl, ⟨sx rfl, ⟨sx rfl, ⟨sx rfl, ⟨sx rfl, ⟨sx rfl, ⟨sx rfl, trivial⟩⟩⟩⟩⟩⟩⟩⟩⟩⟩⟩) (⟨sx rfl, ⟨sx rfl, ⟨sx rfl, ⟨sx rfl, ⟨sx rfl, ⟨sx rfl, trivial⟩⟩⟩⟩⟩⟩) (⟨rfl, trivial⟩)) ?_
          refine awp_cond rfl (fun hci => ?_) (fun hci => ?_)
          · try simp only [nn, Fd.rows_len, Fm.rows_len, V.rows_len, bytesR_len] at hci
            have hF : smpF rec b ((t.getD i.toNat default).fields.getD k default) a = rec ((t.getD i.toNat default).fields.getD k default).n a := by unfold smpF; rw [if_neg hcd, if_neg hce, if_neg hcg, if_neg (by omega), if_pos hci]
            refine awp_region ?_
            refine al_pure rfl rfl rfl (pure_move rfl gU) ?_
            refine al_pure rfl rfl rfl (pure_fieldPtr rfl gU rfl rfl) ?_
            refine al_pure rfl rfl rfl (pure_loadBox rfl gU rfl rfl rfl rfl) ?_
            refine al_pure rfl rfl rfl (pure_loadBoxRow rfl gU rfl rfl rfl rfl rfl) ?_
            refine al_call rfl rfl rfl rfl rfl rfl gU gU (hre hci a (by omega)) rfl ?_
            refine al_pure rfl rfl rfl (pure_move rfl gU) ?_
            refine al_pure rfl rfl rfl (pure_extract rfl gU rfl) ?_
            refine al_pure rfl rfl rfl (pure_extract rfl gU rfl) ?_
            refine al_do rfl (does_store rfl rfl rfl rfl rfl rfl rfl) ?_
            refine al_do rfl (does_store rfl rfl rfl rfl rfl rfl rfl) ?_
            refine al_nil ?_
            refine awp_sub (s := { t := [(0, _, _), (1, _, _), (5, _, _), (6, _, _), (7, _, _), (8, _, _), (9, _, _), (11, _, _)], bx := [((.l 11), _), ((.l 5), _), ((.l 6), _), ((.l 7), _), ((.l 8), _)], ow := [((.b (.l 8) 2), _)] }) (sub_mk (⟨sx rfl, ⟨sx rfl, ⟨sx rfl, ⟨sx rfl, ⟨sx rfl, ⟨sx rfl, ⟨sx rfl, ⟨sx rfl, trivial⟩⟩⟩⟩⟩⟩⟩⟩) (⟨sx rfl, ⟨sx rfl, ⟨sx rfl, ⟨sx rfl, ⟨sx rfl, trivial⟩⟩⟩⟩⟩) (⟨rfl, trivial⟩)) ?_
            refine awp_region ?_
            refine al_pure rfl rfl rfl (pure_fieldPtr rfl gU rfl rfl) ?_
            refine al_do rfl (does_loadTake rfl rfl rfl rfl rfl rfl rfl) ?_
            refine al_pure rfl rfl rfl (pure_loadBoxRow rfl gU rfl rfl rfl rfl rfl) ?_
            refine al_buildSlice (xs := [_]) rfl rfl rfl rfl rfl rfl rfl rfl rfl gU rfl ?_
            refine al_do rfl (does_append rfl rfl rfl rfl rfl rfl rfl (by simp [V.rows_len]; omega) (by simp [V.rows_len]; omega)) ?_
            refine al_pure rfl rfl rfl (pure_fieldPtr rfl gU rfl rfl) ?_
            refine al_do rfl (does_storeOwn rfl rfl rfl rfl rfl rfl rfl) ?_
            refine al_nil ?_
            refine awp_sub (s := { t := [(0, _, _), (1, _, _), (5, _, _), (6, _, _), (7, _, _), (8, _, _), (9, _, _)], bx := [((.l 5), _), ((.l 6), _), ((.l 7), _), ((.l 8), _)], ow := [((.b (.l 8) 2), _)] }) (sub_mk (⟨sx rfl, ⟨sx rfl, ⟨sx rfl, ⟨sx rfl, ⟨sx rfl, ⟨sx rfl, ⟨sx rfl, trivial⟩⟩⟩⟩⟩⟩⟩) (⟨sx rfl, ⟨sx rfl, ⟨sx rfl, ⟨sx rfl, trivial⟩⟩⟩⟩) (⟨rfl, trivial⟩)) ?_
            refine awp_region ?_
            refine al_pure rfl rfl rfl (pure_move rfl gU) ?_
            refine al_pure rfl rfl rfl (pure_arith rfl rfl gU gU rfl (IntWalk.i64_in _ (by omega))) ?_
            refine al_pure rfl rfl rfl (pure_assign rfl gU) ?_
            refine al_nil ?_
            refine ⟨(k + 1, vs ++ [(smpF rec b ((t.getD i.toNat default).fields.getD k default) a).1], (smpF rec b ((t.getD i.toNat default).fields.getD k default) a).2), ?_, ?_, sub_mk (⟨⟨_, rfl, ?_⟩, ⟨sx rfl, ⟨sx rfl, ⟨sx rfl, ⟨sx rfl, ⟨sx rfl, ⟨sx rfl, trivial⟩⟩⟩⟩⟩⟩⟩) (⟨⟨_, rfl, ?_⟩, ⟨⟨_, rfl, ?_⟩, ⟨sx rfl, ⟨sx rfl, trivial⟩⟩⟩⟩) (⟨rfl, trivial⟩)⟩
            · exact ⟨by dsimp only; omega, by simp; omega, (show (smpF rec b ((t.getD i.toNat default).fields.getD k default) a).2 ≤ lim a0 (k + 1) by rw [lim_succ]; omega), hinv⟩
            · dsimp only; omega
            · rfl
            · exact kid_eq (by rw [hF]; rfl)
            · first | (rw [hF]; done) | (rw [hF]; rfl)
          · try simp only [nn, Fd.rows_len, Fm.rows_len, V.rows_len, bytesR_len] at hci
            refine awp_seq (awp_region ?_)
            refine al_pure rfl rfl rfl (pure_cmp rfl rfl gU gU rfl) ?_
            refine al_pure rfl rfl rfl (pure_assign rfl gU) ?_
            refine al_nil ?_
            refine awp_cond rfl (fun hch => ?_) (fun hch => ?_)
            · try simp only [nn, Fd.rows_len, Fm.rows_len, V.rows_len, bytesR_len] at hch
              have hF : smpF rec b ((t.getD i.toNat default).fields.getD k default) a = (bv (someA b (a + 1) (((t.getD i.toNat default).fields.getD k default).low.toNat + hd b a % (((t.getD i.toNat default).fields.getD k default).high - ((t.getD i.toNat default).fields.getD k default).low + 1).toNat)), a + 1 + (((t.getD i.toNat default).fields.getD k default).low.toNat + hd b a % (((t.getD i.toNat default).fields.getD k default).high - ((t.getD i.toNat default).fields.getD k default).low + 1).toNat)) := by unfold smpF; rw [if_neg hcd, if_neg hce, if_neg hcg, if_pos hch]
              refine awp_seq (awp_region ?_)
              refine al_pure rfl rfl rfl (pure_loadBoxRow rfl gU rfl rfl rfl rfl rfl) ?_
              refine al_call rfl rfl rfl rfl rfl rfl gU gU (rnext_spec b a 1 _ rfl hb (by omega) (by omega)) rfl ?_
              refine al_pure rfl rfl rfl (pure_move rfl gU) ?_
              refine al_pure rfl rfl rfl (pure_extract rfl gU rfl) ?_
              refine al_pure rfl rfl rfl (pure_extract rfl gU rfl) ?_
              refine al_pure rfl rfl rfl (pure_assign rfl gU) ?_
              refine al_do rfl (does_store rfl rfl rfl rfl rfl rfl rfl) ?_
              refine al_nil ?_
              refine awp_sub (s := { t := [(0, _, _), (1, _, _), (5, _, _), (6, _, _), (7, _, _), (8, _, _), (9, _, _), (10, _, _), (11, _, _), (12, _, _)], bx := [((.l 10), _), ((.l 11), _), ((.l 5), _), ((.l 6), _), ((.l 7), _), ((.l 8), _)], ow := [((.b (.l 8) 2), _)] }) (sub_mk (⟨sx rfl, ⟨sx rfl, ⟨sx rfl, ⟨sx rfl, ⟨sx rfl, ⟨sx rfl, ⟨sx rfl, ⟨sx rfl, ⟨sx rfl, ⟨sx rfl, trivial⟩⟩⟩⟩⟩⟩⟩⟩⟩⟩) (⟨sx rfl, ⟨sx rfl, ⟨sx rfl, ⟨sx rfl, ⟨sx rfl, ⟨sx rfl, trivial⟩⟩⟩⟩⟩⟩) (⟨rfl, trivial⟩)) ?_
              refine awp_drawn' (by kernel_rfl) ?_
              refine dr_loadRow rfl rfl rfl rfl rfl rfl rfl gU rfl rfl rfl rfl rfl ?_
              refine dr_pure rfl rfl rfl rfl (pure_fieldPtr rfl gU rfl rfl) ?_
              refine dr_load rfl rfl rfl rfl rfl rfl rfl gU rfl rfl rfl rfl ?_
              refine dr_pure rfl rfl rfl rfl (pure_move rfl gU) ?_
              refine dr_pure rfl rfl rfl rfl (pure_indexSg (j := 0) rfl rfl gU gU Try.underlying9 (by first | omega | (simp at hh; omega)) (fun hh => by first | omega | (simp at hh; omega))) ?_
              refine dr_pure rfl rfl rfl rfl (pure_convInt rfl gU ⟨_, Try.underlying5⟩ (Try.underlying3) (IntWalk.i64_in _ (by omega))) ?_
              refine dr_pure rfl rfl rfl rfl (pure_fieldPtr rfl gU rfl rfl) ?_
              refine dr_load rfl rfl rfl rfl rfl rfl rfl gU rfl rfl rfl rfl ?_
              refine dr_pure rfl rfl rfl rfl (pure_fieldPtr rfl gU rfl rfl) ?_
              refine dr_load rfl rfl rfl rfl rfl rfl rfl gU rfl rfl rfl rfl ?_
              refine dr_pure rfl rfl rfl rfl (pure_arith rfl rfl gU gU rfl (IntWalk.i64_in _ (by omega))) ?_
              refine dr_pure rfl rfl rfl rfl (pure_arith rfl rfl gU gU rfl (IntWalk.i64_in _ (by omega))) ?_
              refine dr_pure rfl rfl rfl rfl (pure_remG rfl rfl gU gU (fun hh => by first | omega | (simp at hh; omega)) (fun hh => Int.tmod_eq_emod_of_nonneg (by first | omega | (simp at hh; omega)))) ?_
              refine dr_pure rfl rfl rfl rfl (pure_arith rfl rfl gU gU rfl (IntWalk.i64_in _ (by omega))) ?_
              refine dr_callN rfl rfl rfl rfl rfl rfl rfl gU gU (rnext_spec b (a + 1) (((t.getD i.toNat default).fields.getD k default).low.toNat + hd b a % (((t.getD i.toNat default).fields.getD k default).high - ((t.getD i.toNat default).fields.getD k default).low + 1).toNat) (((t.getD i.toNat default).fields.getD k default).low + (((someA b a 1).getD 0 0).toNat : Int) % (((t.getD i.toNat default).fields.getD k default).high - ((t.getD i.toNat default).fields.getD k default).low + 1)) (by rw [hs, mod_int2 k6]; omega) hb (by omega) (by omega)) rfl ?_
              refine dr_pure rfl rfl rfl rfl (pure_move rfl gU) ?_
              refine dr_pure rfl rfl rfl rfl (pure_extract rfl gU rfl) ?_
              refine dr_pure rfl rfl rfl rfl (pure_extract rfl gU rfl) ?_
              refine dr_pure rfl rfl rfl rfl (pure_fieldPtr rfl gU rfl rfl) ?_
              refine dr_store rfl rfl rfl rfl rfl rfl rfl rfl rfl rfl rfl rfl ?_
              refine dr_store rfl rfl rfl rfl rfl rfl rfl rfl rfl rfl rfl rfl ?_
              refine dr_nil (by kernel_rfl) ?_
              refine awp_sub (s := { t := [(0, _, _), (1, _, _), (5, _, _), (6, _, _), (7, _, _), (8, _, _), (9, _, _), (11, _, _)], bx := [((.l 11), _), ((.l 5), _), ((.l 6), _), ((.l 7), _), ((.l 8), _)], ow := [((.b (.l 8) 2), _)] }) (sub_mk (⟨sx rfl, ⟨sx rfl, ⟨sx rfl, ⟨sx rfl, ⟨sx rfl, ⟨sx rfl, ⟨sx rfl, ⟨sx rfl, trivial⟩⟩⟩⟩⟩⟩⟩⟩) (⟨sx rfl, ⟨sx rfl, ⟨sx rfl, ⟨sx rfl, ⟨sx rfl, trivial⟩⟩⟩⟩⟩) (⟨(ak rfl (ak rfl (ak rfl (ak rfl (ak rfl (ak rfl (ak rfl (ak rfl (ak rfl (ak rfl (ak rfl (ak rfl (ak rfl (ak rfl (ak rfl (ak rfl (ak rfl (ak rfl (ak rfl (ak rfl (ak rfl (rfl)))))))))))))))))))))), trivial⟩)) ?_
              refine awp_region ?_
              refine al_pure rfl rfl rfl (pure_fieldPtr rfl gU rfl rfl) ?_
              refine al_do rfl (does_loadTake rfl rfl rfl rfl rfl rfl rfl) ?_
              refine al_pure rfl rfl rfl (pure_loadBoxRow rfl gU rfl rfl rfl rfl rfl) ?_
              refine al_buildSlice (xs := [_]) rfl rfl rfl rfl rfl rfl rfl rfl rfl gU rfl ?_
              refine al_do rfl (does_append rfl rfl rfl rfl rfl rfl rfl (by simp [V.rows_len]; omega) (by simp [V.rows_len]; omega)) ?_
              refine al_pure rfl rfl rfl (pure_fieldPtr rfl gU rfl rfl) ?_
              refine al_do rfl (does_storeOwn rfl rfl rfl rfl rfl rfl rfl) ?_
              refine al_nil ?_
              refine awp_sub (s := { t := [(0, _, _), (1, _, _), (5, _, _), (6, _, _), (7, _, _), (8, _, _), (9, _, _)], bx := [((.l 5), _), ((.l 6), _), ((.l 7), _), ((.l 8), _)], ow := [((.b (.l 8) 2), _)] }) (sub_mk (⟨sx rfl, ⟨sx rfl, ⟨sx rfl, ⟨sx rfl, ⟨sx rfl, ⟨sx rfl, ⟨sx rfl, trivial⟩⟩⟩⟩⟩⟩⟩) (⟨sx rfl, ⟨sx rfl, ⟨sx rfl, ⟨sx rfl, trivial⟩⟩⟩⟩) (⟨rfl, trivial⟩)) ?_
              refine awp_region ?_
              refine al_pure rfl rfl rfl (pure_move rfl gU) ?_
              refine al_pure rfl rfl rfl (pure_arith rfl rfl gU gU rfl (IntWalk.i64_in _ (by omega))) ?_
              refine al_pure rfl rfl rfl (pure_assign rfl gU) ?_
              refine al_nil ?_
              refine ⟨(k + 1, vs ++ [(smpF rec b ((t.getD i.toNat default).fields.getD k default) a).1], (smpF rec b ((t.getD i.toNat default).fields.getD k default) a).2), ?_, ?_, sub_mk (⟨⟨_, rfl, ?_⟩, ⟨sx rfl, ⟨sx rfl, ⟨sx rfl, ⟨sx rfl, ⟨sx rfl, ⟨sx rfl, trivial⟩⟩⟩⟩⟩⟩⟩) (⟨⟨_, rfl, ?_⟩, ⟨⟨_, rfl, ?_⟩, ⟨sx rfl, ⟨sx rfl, trivial⟩⟩⟩⟩) (⟨rfl, trivial⟩)⟩
              · exact ⟨by dsimp only; omega, by simp; omega, (show (smpF rec b ((t.getD i.toNat default).fields.getD k default) a).2 ≤ lim a0 (k + 1) by rw [lim_succ]; omega), hinv⟩
              · dsimp only; omega
              · rfl
              · exact kid_eq (by rw [hF]; rfl)
              · first | (rw [hF]; done) | (rw [hF]; rfl)
            · try simp only [nn, Fd.rows_len, Fm.rows_len, V.rows_len, bytesR_len] at hch
              have hF : smpF rec b ((t.getD i.toNat default).fields.getD k default) a = (v0, a) := by unfold smpF; rw [if_neg hcd, if_neg hce, if_neg hcg, if_neg hch, if_neg hci]
              refine awp_skip ?_
              refine awp_region ?_
              refine al_pure rfl rfl rfl (pure_fieldPtr rfl gU rfl rfl) ?_
              refine al_do rfl (does_loadTake rfl rfl rfl rfl rfl rfl rfl) ?_
              refine al_pure rfl rfl rfl (pure_loadBoxRow rfl gU rfl rfl rfl rfl rfl) ?_
              refine al_buildSlice (xs := [_]) rfl rfl rfl rfl rfl rfl rfl rfl rfl gU rfl ?_
              refine al_do rfl (does_append rfl rfl rfl rfl rfl rfl rfl (by simp [V.rows_len]; omega) (by simp [V.rows_len]; omega)) ?_
              refine al_pure rfl rfl rfl (pure_fieldPtr rfl gU rfl rfl) ?_
              refine al_do rfl (does_storeOwn rfl rfl rfl rfl rfl rfl rfl) ?_
              refine al_nil ?_
              refine awp_sub (s := { t := [(0, _, _), (1, _, _), (5, _, _), (6, _, _), (7, _, _), (8, _, _), (9, _, _)], bx := [((.l 5), _), ((.l 6), _), ((.l 7), _), ((.l 8), _)], ow := [((.b (.l 8) 2), _)] }) (sub_mk (⟨sx rfl, ⟨sx rfl, ⟨sx rfl, ⟨sx rfl, ⟨sx rfl, ⟨sx rfl, ⟨sx rfl, trivial⟩⟩⟩⟩⟩⟩⟩) (⟨sx rfl, ⟨sx rfl, ⟨sx rfl, ⟨sx rfl, trivial⟩⟩⟩⟩) (⟨rfl, trivial⟩)) ?_
              refine awp_region ?_
              refine al_pure rfl rfl rfl (pure_move rfl gU) ?_
              refine al_pure rfl rfl rfl (pure_arith rfl rfl gU gU rfl (IntWalk.i64_in _ (by omega))) ?_
              refine al_pure rfl rfl rfl (pure_assign rfl gU) ?_
              refine al_nil ?_
              refine ⟨(k + 1, vs ++ [(smpF rec b ((t.getD i.toNat default).fields.getD k default) a).1], (smpF rec b ((t.getD i.toNat default).fields.getD k default) a).2), ?_, ?_, sub_mk (⟨⟨_, rfl, ?_⟩, ⟨sx rfl, ⟨sx rfl, ⟨sx rfl, ⟨sx rfl, ⟨sx rfl, ⟨sx rfl, trivial⟩⟩⟩⟩⟩⟩⟩) (⟨⟨_, rfl, ?_⟩, ⟨⟨_, rfl, ?_⟩, ⟨sx rfl, ⟨sx rfl, trivial⟩⟩⟩⟩) (⟨rfl, trivial⟩)⟩
              · exact ⟨by dsimp only; omega, by simp; omega, (show (smpF rec b ((t.getD i.toNat default).fields.getD k default) a).2 ≤ lim a0 (k + 1) by rw [lim_succ]; omega), hinv⟩
              · dsimp only; omega
              · rfl
              · exact kid_eq (by rw [hF]; rfl)
              · first | (rw [hF]; done) | (rw [hF]; rfl)
  · try simp only [nn, Fd.rows_len, Fm.rows_len, V.rows_len, bytesR_len] at hc
    rw [List.drop_of_length_le (by omega), smpL] at hinv
    rw [← hinv]
    refine awp_exit ?_
    repeat (first | refine thenS_exit ?_ | refine blockS_hit ?_ | refine blockS_miss rfl ?_)
    refine awp_seq ?_
    refine awp_drawn' (by kernel_rfl) ?_
    refine dr_loadRow rfl rfl rfl rfl rfl rfl rfl gU rfl rfl rfl rfl rfl ?_
    refine dr_loadRow rfl rfl rfl rfl rfl rfl rfl gU rfl rfl rfl rfl rfl ?_
    refine dr_store rfl rfl rfl rfl rfl rfl rfl rfl rfl rfl rfl rfl ?_
    refine dr_store rfl rfl rfl rfl rfl rfl rfl rfl rfl rfl rfl rfl ?_
    refine dr_nil (by kernel_rfl) ?_
    refine awp_ret ?_
    repeat (first | refine tR ?_ | refine bR ?_)
    refine ret_ok rfl ?_ trivial
    rfl
theorem rsample0_spec (t : List Fm) (i : Int) (b : List UInt8) (a : Nat) (hi : 0 ≤ i ∧ i < t.length) (hb : b.length ≤ 100000) (ha : a ≤ 50000) (h : Plain1 (t.getD i.toNat default).fields) :
    Ctr sys 48 [xtab t, xi i, .v (.agg (sc b a))] [] (.tup [.agg (smp0 t b i a).1.cells, .agg (sc b (smp0 t b i a).2)]) none [] :=
  rsample_gen t i b a _ hi hb ha h.len.2 (fun k hk => (h.ok k hk).1) (fun k hk h5 => absurd h5 (h.ok k hk).2.1) fun k hk h5 => absurd h5 (h.ok k hk).2.1
theorem rsample_spec (t : List Fm) (i : Int) (b : List UInt8) (hi : 0 ≤ i ∧ i < t.length) (hb : b.length ≤ 100000) (h : Fds t (t.getD i.toNat default).fields) :
    Ctr sys 48 [xtab t, xi i, .v (.agg (sc b 0))] [] (.tup [.agg (smpT t b i 0).1.cells, .agg (sc b (smpT t b i 0).2)]) none [] :=
  rsample_gen t i b 0 _ hi hb (by omega) h.len.2 h.ok (fun k hk h5 a => by have := smp0_le (b := b) (a := a) (h.nest k hk h5).2; omega)
    fun k hk h5 a ha => rsample0_spec t _ b a (by have := (h.nest k hk h5).1; have := (h.ok k hk).n; omega) hb (by omega) (h.nest k hk h5).2
theorem rSample_spec (t : List Fm) (i : Int) (b : List UInt8) (hb2 : b.length ≤ 100000) : Ctr sys 31 [xtab t, xi i, xbs b] [] (xve (smpE t i b)) none [] := by
  refine spec_intro Try.func31 rfl rfl rfl rfl rfl rfl ?_
  refine awp_seq (awp_region ?_)
  refine al_do rfl (does_alloc rfl rfl rfl) ?_
  refine al_pure rfl rfl rfl (pure_assign rfl gU) ?_
  refine al_nil ?_
  refine awp_seq ?_
  refine awp_seq (awp_region ?_)
  refine al_pure rfl rfl rfl (pure_move rfl gU) ?_
  refine al_pure rfl rfl rfl (pure_move rfl gU) ?_
  refine al_call rfl rfl rfl rfl rfl rfl gU gU (rError_spec _ _) rfl ?_
  refine al_pure rfl rfl rfl (pure_assign rfl gU) ?_
  refine al_nil ?_
  refine awp_sub (s := { t := [(0, _, _), (1, _, _), (2, _, _), (6, _, _), (8, _, _)], bx := [((.l 6), _)], ow := [] }) (sub_mk (⟨sx rfl, ⟨sx rfl, ⟨sx rfl, ⟨sx rfl, ⟨sx rfl, trivial⟩⟩⟩⟩⟩) (⟨sx rfl, trivial⟩) trivial) ?_
  refine awp_seq (awp_region ?_)
  refine al_pure rfl rfl rfl (pure_move rfl gU) ?_
  refine al_pure rfl rfl rfl (pure_cmp rfl rfl gU gU rfl) ?_
  refine al_nil ?_
  refine awp_cond rfl (fun hc => ?_) (fun hc => ?_)
  · try simp only [nn, Fd.rows_len, Fm.rows_len, V.rows_len, bytesR_len] at hc
    refine awp_seq (awp_region ?_)
    refine al_pure rfl rfl rfl (pure_build rfl Try.underlying25 rfl gU) ?_
    refine al_pure rfl rfl rfl (pure_move rfl gU) ?_
    refine al_do rfl (does_store rfl rfl rfl rfl rfl rfl rfl) ?_
    refine al_pure rfl rfl rfl (pure_assign rfl gU) ?_
    refine al_nil ?_
    refine awp_ret ?_
    repeat (first | refine tR ?_ | refine bR ?_)
    refine ret_ok rfl ?_ trivial
    (rw [smpE, if_pos hc]; rfl)
  · try simp only [nn, Fd.rows_len, Fm.rows_len, V.rows_len, bytesR_len] at hc
    have he : errE t i = 0 := hc
    refine awp_skip ?_
    refine awp_seq (awp_region ?_)
    refine al_pure rfl rfl rfl (pure_move rfl gU) ?_
    refine al_pure rfl rfl rfl (pure_move rfl gU) ?_
    refine al_pure rfl rfl rfl (pure_move rfl gU) ?_
    refine al_pure rfl rfl rfl (pure_build rfl Try.underlying86 rfl gU) ?_
    refine al_call rfl rfl rfl rfl rfl rfl gU gU (rsample_spec t i b (errE_fds he).1 hb2 (errE_fds he).2) rfl ?_
    refine al_pure rfl rfl rfl (pure_move rfl gU) ?_
    refine al_pure rfl rfl rfl (pure_extract rfl gU rfl) ?_
    refine al_pure rfl rfl rfl (pure_extract rfl gU rfl) ?_
    refine al_do rfl (does_alloc rfl rfl rfl) ?_
    refine al_do rfl (does_alloc rfl rfl rfl) ?_
    refine al_sub (s := { t := [(6, _, _), (9, _, _), (10, _, _), (24, _, _), (25, _, _)], bx := [((.l 10), _), ((.l 6), _), ((.l 9), _)], ow := [] }) (sub_mk (⟨sx rfl, ⟨sx rfl, ⟨sx rfl, ⟨sx rfl, ⟨sx rfl, trivial⟩⟩⟩⟩⟩) (⟨sx rfl, ⟨sx rfl, ⟨sx rfl, trivial⟩⟩⟩) trivial) ?_
    refine al_do rfl (does_store rfl rfl rfl rfl rfl rfl rfl) ?_
    refine al_do rfl (does_store rfl rfl rfl rfl rfl rfl rfl) ?_
    refine al_nil ?_
    refine awp_seq (awp_region ?_)
    refine al_pure rfl rfl rfl (pure_loadBoxRow rfl gU rfl rfl rfl rfl rfl) ?_
    refine al_do rfl (does_store rfl rfl rfl rfl rfl rfl rfl) ?_
    refine al_pure rfl rfl rfl (pure_assign rfl gU) ?_
    refine al_nil ?_
    refine awp_ret ?_
    repeat (first | refine tR ?_ | refine bR ?_)
    refine ret_ok rfl ?_ trivial
    (rw [smpE, if_neg (by omega)]; rfl)
end Go.Proofs.Ytgjclggjkhapfaa
/- Contracts: the law CodecSample. -/
set_option linter.unusedVariables false
set_option linter.unusedSimpArgs false
namespace Go.Proofs.Ytgjclggjkhapfaa
open Go Go.Abs
theorem index_of (x : Int) (l : List Int) (hl : l.length ≤ 100000) : Ctr sys 50 [xis l, xi x] [] (xi (idxI x l 0)) none [] := by
  have hra := intR_len l
  refine spec_intro Try.func50 rfl rfl rfl rfl rfl rfl ?_
  refine awp_seq (awp_region ?_)
  refine al_pure rfl rfl rfl (pure_assign rfl gU) ?_
  refine al_nil ?_
  refine awp_seq ?_
  refine awp_seq (awp_region ?_)
  refine al_pure rfl rfl rfl (pure_move rfl gU) ?_
  refine al_lenSl rfl rfl rfl rfl rfl gU rfl rfl ?_ (fun hh => by simp at hh); intro hlen
  refine al_pure rfl rfl rfl (pure_move rfl gU) ?_
  refine al_nil ?_
  refine awp_block ?_
  refine awp_for (ι := Nat) { t := [(0, _, _), (1, _, _), (7, _, _)], bx := [], ow := [] } (fun k => [(8, true, xi (k : Int))]) (fun k => []) (fun k => k ≤ l.length ∧ idxI x (l.drop k) k = idxI x l 0) (fun k => l.length - k) (0) (by simp) (sub_mk (⟨sx rfl, ⟨sx rfl, ⟨sx rfl, ⟨sx rfl, trivial⟩⟩⟩⟩) trivial trivial) ?_
  intro k hok
  dsimp only [List.cons_append, List.nil_append]
  obtain ⟨hk, hinv⟩ := hok
  refine awp_seq (awp_region ?_)
  refine al_pure rfl rfl rfl (pure_cmp rfl rfl gU gU rfl) ?_
  refine al_nil ?_
  refine awp_seq ?_
  refine awp_cond rfl (fun hc => ?_) (fun hc => ?_)
  · try simp only [nn, Fd.rows_len, Fm.rows_len, V.rows_len, intR_len, bytesR_len] at hc
    rw [dropD (d := 0) (by omega), idxI] at hinv
    refine awp_skip ?_
    refine awp_seq ?_
    refine awp_block ?_
    refine awp_seq (awp_region ?_)
    refine al_pure rfl rfl rfl (pure_move rfl gU) ?_
    refine al_pure rfl rfl rfl (pure_assign rfl gU) ?_
    refine al_nil ?_
    refine awp_seq (awp_region ?_)
    refine al_pure rfl rfl rfl (pure_move rfl gU) ?_
    refine al_pure rfl rfl rfl (pure_move rfl gU) ?_
    refine al_pure rfl rfl rfl (pure_move rfl gU) ?_
    refine al_pure rfl rfl rfl (pure_indexAddr rfl rfl gU gU rfl rfl rfl (fun hh => intR_at (by first | omega | (simp at hh; omega)))) ?_
    refine al_pure rfl rfl rfl (pure_loadRo rfl gU rfl rfl rfl) ?_
    refine al_pure rfl rfl rfl (pure_cmp rfl rfl gU gU rfl) ?_
    refine al_nil ?_
    refine awp_sub (s := { t := [(0, _, _), (1, _, _), (5, _, _), (7, _, _), (8, _, _), (16, _, _)], bx := [], ow := [] }) (sub_mk (⟨sx rfl, ⟨sx rfl, ⟨sx rfl, ⟨sx rfl, ⟨sx rfl, ⟨sx rfl, trivial⟩⟩⟩⟩⟩⟩) trivial trivial) ?_
    refine awp_cond rfl (fun hc1 => ?_) (fun hc1 => ?_)
    · try simp only [nn, Fd.rows_len, Fm.rows_len, V.rows_len, intR_len, bytesR_len] at hc1
      refine awp_seq (awp_region ?_)
      refine al_pure rfl rfl rfl (pure_move rfl gU) ?_
      refine al_pure rfl rfl rfl (pure_assign rfl gU) ?_
      refine al_nil ?_
      refine awp_ret ?_
      repeat (first | refine tR ?_ | refine bR ?_)
      refine ret_ok rfl ?_ trivial
      exact xi_eq (by grind)
    · try simp only [nn, Fd.rows_len, Fm.rows_len, V.rows_len, intR_len, bytesR_len] at hc1
      refine awp_skip ?_
      refine awp_region ?_
      refine al_pure rfl rfl rfl (pure_arith rfl rfl gU gU rfl (IntWalk.i64_in _ (by omega))) ?_
      refine al_pure rfl rfl rfl (pure_move rfl gU) ?_
      refine al_nil ?_
      refine ⟨k + 1, ?_, ?_, sub_mk (⟨⟨_, rfl, ?_⟩, ⟨sx rfl, ⟨sx rfl, ⟨sx rfl, trivial⟩⟩⟩⟩) trivial trivial⟩
      all_goals (first | rfl | omega | grind)
  · try simp only [nn, Fd.rows_len, Fm.rows_len, V.rows_len, intR_len, bytesR_len] at hc
    rw [List.drop_of_length_le (by omega), idxI] at hinv
    refine awp_exit ?_
    repeat (first | refine thenS_exit ?_ | refine blockS_hit ?_ | refine blockS_miss rfl ?_)
    refine awp_seq (awp_region ?_)
    refine al_pure rfl rfl rfl (pure_assign rfl gU) ?_
    refine al_nil ?_
    refine awp_ret ?_
    repeat (first | refine tR ?_ | refine bR ?_)
    refine ret_ok rfl ?_ trivial
    exact xi_eq hinv
theorem contains_of (x : Int) (l : List Int) (hl : l.length ≤ 100000) (hx : x ∈ l) : Ctr sys 33 [xis l, xi x] [] (xb true) none [] := by
  have := idxI_mem hx (Int.le_refl 0)
  refine spec_intro Try.func33 rfl rfl rfl rfl rfl rfl ?_
  refine awp_seq (awp_region ?_)
  refine al_pure rfl rfl rfl (pure_assign rfl gU) ?_
  refine al_nil ?_
  refine awp_seq (awp_region ?_)
  refine al_pure rfl rfl rfl (pure_move rfl gU) ?_
  refine al_pure rfl rfl rfl (pure_move rfl gU) ?_
  refine al_call rfl rfl rfl rfl rfl rfl gU gU (index_of _ _ (by assumption)) rfl ?_
  refine al_pure rfl rfl rfl (pure_cmp rfl rfl gU gU rfl) ?_
  refine al_pure rfl rfl rfl (pure_assign rfl gU) ?_
  refine al_nil ?_
  refine awp_ret ?_
  repeat (first | refine tR ?_ | refine bR ?_)
  refine ret_ok rfl ?_ trivial
  exact xb_eq (by simpa using this)
theorem few1_len2 {t : List Fm} {s : List UInt8} (h : few1 t s = true) : s.length ≤ 300 ∧ t.length ≤ 12 := by
  unfold few1 fewT at h
  simp only [Bool.and_eq_true, decide_eq_true_eq] at h
  exact ⟨h.2, h.1.1⟩
theorem whichL_len (t : List Fm) (s : List UInt8) : ∀ (n k : Nat) (out : List Int), (whichL t s n k out).length ≤ out.length + n
  | 0, k, out => by rw [whichL]; omega
  | n + 1, k, out => by
    rw [whichL]
    have := whichL_len t s n (k + 1) (if (decE t k s).2.2 = 0 then out ++ [(k : Int)] else out)
    split at this
    · rename_i h; rw [if_pos h]; simp at this; omega
    · rename_i h; rw [if_neg h]; omega
theorem encE_len2 (t : List Fm) (i : Int) (v : V) : (encE t i v).1.length ≤ 100000 := by
  unfold encE
  split
  · simp
  · rename_i h
    have h := valE_zero (Decidable.not_not.1 h)
    have := encT_len h.1.2 h.2
    dsimp only; omega
theorem CodecSample_spec (t : List Fm) (i : Int) (b : List UInt8) : Ctr sys 9 [xtab t, xi i, xbs b] [] (xb true) none [] := by
  have hbl := bytesR_len b
  refine spec_intro Try.func9 rfl rfl rfl rfl rfl rfl ?_
  refine awp_seq (awp_region ?_)
  refine al_pure rfl rfl rfl (pure_assign rfl gU) ?_
  refine al_nil ?_
  refine awp_seq ?_
  refine awp_seq (awp_region ?_)
  refine al_call rfl rfl rfl rfl rfl rfl gU gU (awake_spec) rfl ?_
  refine al_pure rfl rfl rfl (pure_not rfl gU) ?_
  refine al_pure rfl rfl rfl (pure_move rfl gU) ?_
  refine al_pure rfl rfl rfl (pure_move rfl gU) ?_
  refine al_pure rfl rfl rfl (pure_move rfl gU) ?_
  refine al_pure rfl rfl rfl (pure_bytesStr (l := b) rfl (by rfl) (fun hh => hh) Try.underlying48 Try.underlying5 Try.underlying9) ?_
  refine al_call rfl rfl rfl rfl rfl rfl gU (fun hh => gA ((fun hh => hh) hh) (gA ((fun hh => hh) hh) (rfl))) (few_spec _ b) rfl ?_
  refine al_pure rfl rfl rfl (pure_not rfl (fun hh => hh)) ?_
  refine al_pure rfl rfl rfl (pure_or rfl rfl gU (fun _ hi => gP rfl hi)) ?_
  refine al_nil ?_
  refine awp_sub (s := { t := [(0, _, _), (1, _, _), (2, _, _), (24, _, _)], bx := [], ow := [] }) (sub_mk (⟨sx rfl, ⟨sx rfl, ⟨sx rfl, ⟨sx rfl, trivial⟩⟩⟩⟩) trivial trivial) ?_
  refine awp_cond rfl (fun hc => ?_) (fun hc => ?_)
  · refine awp_seq (awp_region ?_)
    refine al_call rfl rfl rfl rfl rfl rfl gU gU (awake_spec) rfl ?_
    refine al_pure rfl rfl rfl (pure_assign rfl gU) ?_
    refine al_nil ?_
    refine awp_ret ?_
    repeat (first | refine tR ?_ | refine bR ?_)
    refine ret_ok rfl ?_ trivial
    rfl
  · try simp only [nn, Fd.rows_len, Fm.rows_len, V.rows_len, intR_len, bytesR_len] at hc
    obtain ⟨h1, h2⟩ := few1_len2 (t := t) (s := b) (by simpa using hc)
    refine awp_skip ?_
    refine awp_seq (awp_region ?_)
    refine al_pure rfl rfl rfl (pure_move rfl gU) ?_
    refine al_pure rfl rfl rfl (pure_move rfl gU) ?_
    refine al_pure rfl rfl rfl (pure_move rfl gU) ?_
    refine al_call rfl rfl rfl rfl rfl rfl gU gU (clone_spec _ (by omega)) rfl ?_
    refine al_call rfl rfl rfl rfl rfl rfl gU gU (cSample_spec _ _ _ (by omega)) rfl ?_
    refine al_pure rfl rfl rfl (pure_move rfl gU) ?_
    refine al_pure rfl rfl rfl (pure_extract rfl gU rfl) ?_
    refine al_pure rfl rfl rfl (pure_extract rfl gU rfl) ?_
    refine al_do rfl (does_alloc rfl rfl rfl) ?_
    refine al_do rfl (does_store rfl rfl rfl rfl rfl rfl rfl) ?_
    refine al_pure rfl rfl rfl (pure_assign rfl gU) ?_
    refine al_nil ?_
    refine awp_sub (s := { t := [(0, _, _), (1, _, _), (2, _, _), (7, _, _), (8, _, _)], bx := [((.l 7), _)], ow := [] }) (sub_mk (⟨sx rfl, ⟨sx rfl, ⟨sx rfl, ⟨sx rfl, ⟨sx rfl, trivial⟩⟩⟩⟩⟩) (⟨sx rfl, trivial⟩) trivial) ?_
    refine awp_seq (awp_region ?_)
    refine al_pure rfl rfl rfl (pure_move rfl gU) ?_
    refine al_pure rfl rfl rfl (pure_move rfl gU) ?_
    refine al_pure rfl rfl rfl (pure_move rfl gU) ?_
    refine al_call rfl rfl rfl rfl rfl rfl gU gU (rSample_spec _ _ _ (by omega)) rfl ?_
    refine al_pure rfl rfl rfl (pure_move rfl gU) ?_
    refine al_pure rfl rfl rfl (pure_extract rfl gU rfl) ?_
    refine al_pure rfl rfl rfl (pure_extract rfl gU rfl) ?_
    refine al_do rfl (does_alloc rfl rfl rfl) ?_
    refine al_do rfl (does_store rfl rfl rfl rfl rfl rfl rfl) ?_
    refine al_pure rfl rfl rfl (pure_assign rfl gU) ?_
    refine al_nil ?_
    refine awp_sub (s := { t := [(0, _, _), (1, _, _), (7, _, _), (8, _, _), (9, _, _), (10, _, _)], bx := [((.l 7), _), ((.l 9), _)], ow := [] }) (sub_mk (⟨sx rfl, ⟨sx rfl, ⟨sx rfl, ⟨sx rfl, ⟨sx rfl, ⟨sx rfl, trivial⟩⟩⟩⟩⟩⟩) (⟨sx rfl, ⟨sx rfl, trivial⟩⟩) trivial) ?_
    refine awp_seq ?_
    refine awp_seq (awp_region ?_)
    refine al_pure rfl rfl rfl (pure_move rfl gU) ?_
    refine al_pure rfl rfl rfl (pure_move rfl gU) ?_
    refine al_pure rfl rfl rfl (pure_cmp rfl rfl gU gU rfl) ?_
    refine al_pure rfl rfl rfl (pure_move rfl gU) ?_
    refine al_pure rfl rfl rfl (pure_loadBoxRow rfl gU rfl rfl rfl rfl rfl) ?_
    refine al_pure rfl rfl rfl (pure_loadBoxRow rfl gU rfl rfl rfl rfl rfl) ?_
    refine al_call rfl rfl rfl rfl rfl rfl gU (fun hh => gA ((fun hh => hh) hh) (gA ((fun hh => hh) hh) (rfl))) (Same_spec _ _ _ (Nat.le_refl _)) rfl ?_
    refine al_pure rfl rfl rfl (pure_not rfl (fun hh => hh)) ?_
    refine al_pure rfl rfl rfl (pure_or rfl rfl gU (fun _ hi => gP rfl hi)) ?_
    refine al_pure rfl rfl rfl (pure_move rfl gU) ?_
    refine al_pure rfl rfl rfl (pure_move rfl gU) ?_
    refine al_pure rfl rfl rfl (pure_cmp rfl rfl (fun hh => hh) gU rfl) ?_
    refine al_sub (s := { t := [(0, _, _), (1, _, _), (7, _, _), (8, _, _), (9, _, _), (10, _, _), (50, _, _), (52, _, _)], bx := [((.l 7), _), ((.l 9), _)], ow := [] }) (sub_mk (⟨sx rfl, ⟨sx rfl, ⟨sx rfl, ⟨sx rfl, ⟨sx rfl, ⟨sx rfl, ⟨sx rfl, ⟨sx rfl, trivial⟩⟩⟩⟩⟩⟩⟩⟩) (⟨sx rfl, ⟨sx rfl, trivial⟩⟩) trivial) ?_
    refine al_pure rfl rfl rfl (pure_or rfl rfl gU (fun _ hi => gP rfl hi)) ?_
    refine al_nil ?_
    refine awp_cond rfl (fun hc2 => ?_) (fun hc2 => ?_)
    · refine awp_seq (awp_region ?_)
      refine al_pure rfl rfl rfl (pure_move rfl gU) ?_
      refine al_pure rfl rfl rfl (pure_move rfl gU) ?_
      refine al_pure rfl rfl rfl (pure_cmp rfl rfl gU gU rfl) ?_
      refine al_pure rfl rfl rfl (pure_move rfl gU) ?_
      refine al_pure rfl rfl rfl (pure_loadBoxRow rfl gU rfl rfl rfl rfl rfl) ?_
      refine al_pure rfl rfl rfl (pure_loadBoxRow rfl gU rfl rfl rfl rfl rfl) ?_
      refine al_call rfl rfl rfl rfl rfl rfl gU (fun hh => gA ((fun hh => hh) hh) (gA ((fun hh => hh) hh) (rfl))) (Same_spec _ _ _ (Nat.le_refl _)) rfl ?_
      refine al_pure rfl rfl rfl (pure_and rfl rfl gU (fun _ hi => gP rfl hi)) ?_
      refine al_pure rfl rfl rfl (pure_assign rfl gU) ?_
      refine al_nil ?_
      refine awp_ret ?_
      repeat (first | refine tR ?_ | refine bR ?_)
      refine ret_ok rfl ?_ trivial
      exact xb_eq (by simp [sameB_eq])
    · have hd0 : (smpE t i b).2 = 0 := by
        simp [sameB_eq] at hc2
        exact hc2
      have he : errE t i = 0 := by
        by_cases h : errE t i = 0
        · exact h
        · rw [smpE, if_pos h] at hd0; exact absurd hd0 h
      have hs1 : (smpE t i b).1 = (smpT t b i 0).1 := by rw [smpE, if_neg (by omega)]
      have hf := (errE_fds he).2
      have hi := (errE_fds he).1
      have hok : valT t i (smpE t i b).1 = 0 := by rw [hs1]; exact smpT_ok hf
      have hv : valE t i (smpE t i b).1 = 0 := by rw [valE, if_neg (by omega)]; exact hok
      have hen : encE t i (smpE t i b).1 = (encT t i (smpE t i b).1, 0) := by rw [encE, if_neg (by omega)]
      obtain ⟨b1, b2⟩ := encT_bnd hf hok
      obtain ⟨z1, z2⟩ := boundsE_zero he
      have z3 : (boundsE t i).2.2 = 0 := by rw [boundsE_err]; exact he
      have hde : (decE t i (encE t i (smpE t i b).1).1).2.2 = 0 := by rw [hen]; dsimp only; rw [dec_enc hv]
      have hwl : (whichE t (encE t i (smpE t i b).1).1).length ≤ 100000 := by
        have := whichL_len t (encE t i (smpE t i b).1).1 t.length 0 []
        simp at this
        unfold whichE; omega
      refine awp_skip ?_
      refine awp_seq (awp_region ?_)
      refine al_pure rfl rfl rfl (pure_move rfl gU) ?_
      refine al_pure rfl rfl rfl (pure_move rfl gU) ?_
      refine al_pure rfl rfl rfl (pure_loadBoxRow rfl gU rfl rfl rfl rfl rfl) ?_
      refine al_call rfl rfl rfl rfl rfl rfl gU gU (cEncode_spec _ _ _) rfl ?_
      refine al_pure rfl rfl rfl (pure_move rfl gU) ?_
      refine al_pure rfl rfl rfl (pure_extract rfl gU rfl) ?_
      refine al_pure rfl rfl rfl (pure_extract rfl gU rfl) ?_
      refine al_pure rfl rfl rfl (pure_assign rfl gU) ?_
      refine al_pure rfl rfl rfl (pure_assign rfl gU) ?_
      refine al_nil ?_
      refine awp_sub (s := { t := [(0, _, _), (1, _, _), (11, _, _), (12, _, _)], bx := [], ow := [] }) (sub_mk (⟨sx rfl, ⟨sx rfl, ⟨sx rfl, ⟨sx rfl, trivial⟩⟩⟩⟩) trivial trivial) ?_
      refine awp_seq (awp_region ?_)
      refine al_pure rfl rfl rfl (pure_move rfl gU) ?_
      refine al_pure rfl rfl rfl (pure_move rfl gU) ?_
      refine al_call rfl rfl rfl rfl rfl rfl gU gU (rBounds_spec _ _) rfl ?_
      refine al_pure rfl rfl rfl (pure_move rfl gU) ?_
      refine al_pure rfl rfl rfl (pure_extract rfl gU rfl) ?_
      refine al_pure rfl rfl rfl (pure_extract rfl gU rfl) ?_
      refine al_pure rfl rfl rfl (pure_extract rfl gU rfl) ?_
      refine al_pure rfl rfl rfl (pure_assign rfl gU) ?_
      refine al_pure rfl rfl rfl (pure_assign rfl gU) ?_
      refine al_pure rfl rfl rfl (pure_assign rfl gU) ?_
      refine al_nil ?_
      refine awp_sub (s := { t := [(0, _, _), (1, _, _), (11, _, _), (12, _, _), (13, _, _), (14, _, _), (15, _, _)], bx := [], ow := [] }) (sub_mk (⟨sx rfl, ⟨sx rfl, ⟨sx rfl, ⟨sx rfl, ⟨sx rfl, ⟨sx rfl, ⟨sx rfl, trivial⟩⟩⟩⟩⟩⟩⟩) trivial trivial) ?_
      refine awp_seq (awp_region ?_)
      refine al_pure rfl rfl rfl (pure_move rfl gU) ?_
      refine al_pure rfl rfl rfl (pure_cmp rfl rfl gU gU rfl) ?_
      refine al_pure rfl rfl rfl (pure_move rfl gU) ?_
      refine al_pure rfl rfl rfl (pure_move rfl gU) ?_
      refine al_pure rfl rfl rfl (pure_cmp rfl rfl (fun hh => hh) gU rfl) ?_
      refine al_pure rfl rfl rfl (pure_and rfl rfl gU (fun _ hi => gP rfl hi)) ?_
      refine al_pure rfl rfl rfl (pure_move rfl gU) ?_
      refine al_pure rfl rfl rfl (pure_move rfl gU) ?_
      refine al_pure rfl rfl rfl (pure_lenS rfl (fun hh => hh) (Try.underlying9)) ?_
      refine al_pure rfl rfl rfl (pure_move rfl gU) ?_
      refine al_pure rfl rfl rfl (pure_cmp rfl rfl (fun hh => hh) (fun hh => hh) rfl) ?_
      refine al_pure rfl rfl rfl (pure_and rfl rfl gU (fun _ hi => gP rfl hi)) ?_
      refine al_sub (s := { t := [(0, _, _), (1, _, _), (11, _, _), (14, _, _), (87, _, _)], bx := [], ow := [] }) (sub_mk (⟨sx rfl, ⟨sx rfl, ⟨sx rfl, ⟨sx rfl, ⟨sx rfl, trivial⟩⟩⟩⟩⟩) trivial trivial) ?_
      refine al_pure rfl rfl rfl (pure_move rfl gU) ?_
      refine al_pure rfl rfl rfl (pure_move rfl gU) ?_
      refine al_pure rfl rfl rfl (pure_lenS rfl (fun hh => hh) (Try.underlying9)) ?_
      refine al_pure rfl rfl rfl (pure_move rfl gU) ?_
      refine al_pure rfl rfl rfl (pure_cmp rfl rfl (fun hh => hh) (fun hh => hh) rfl) ?_
      refine al_pure rfl rfl rfl (pure_and rfl rfl gU (fun _ hi => gP rfl hi)) ?_
      refine al_pure rfl rfl rfl (pure_move rfl gU) ?_
      refine al_pure rfl rfl rfl (pure_move rfl gU) ?_
      refine al_pure rfl rfl rfl (pure_move rfl gU) ?_
      refine al_call rfl rfl rfl rfl rfl rfl gU (fun hh => gA ((fun hh => hh) hh) (gA ((fun hh => hh) hh) (rfl))) (cWhich_spec _ _ (encE_len2 _ _ _) (by omega)) rfl ?_
      refine al_pure rfl rfl rfl (pure_move rfl gU) ?_
      refine al_call rfl rfl rfl rfl rfl rfl gU (fun hh => gA ((fun hh => hh) hh) (gA ((fun hh => hh) hh) (rfl))) (contains_of _ _ hwl (which_mem hi.1 hi.2 hde)) rfl ?_
      refine al_sub (s := { t := [(94, _, _), (99, _, _)], bx := [], ow := [] }) (sub_mk (⟨sx rfl, ⟨sx rfl, trivial⟩⟩) trivial trivial) ?_
      refine al_pure rfl rfl rfl (pure_and rfl rfl gU (fun _ hi => gP rfl hi)) ?_
      refine al_pure rfl rfl rfl (pure_assign rfl gU) ?_
      refine al_nil ?_
      refine awp_ret ?_
      repeat (first | refine tR ?_ | refine bR ?_)
      refine ret_ok rfl ?_ trivial
      have e1 : (encE t i (smpE t i b).1).2 = 0 := by rw [hen]
      have e2 : (encE t i (smpE t i b).1).1 = encT t i (smpE t i b).1 := by rw [hen]
      refine xb_eq ?_
      rw [e1, e2, z1, z2, z3]
      simp only [Bool.and_eq_true, decide_eq_true_eq, Bool.and_true, BEq.rfl, Bool.true_and]
      first | (simp; omega) | exact ⟨by omega, by omega⟩
end Go.Proofs.Ytgjclggjkhapfaa
/- From readings to bytes. -/
set_option linter.unusedVariables false
set_option linter.unusedSimpArgs false
namespace Go.Proofs.Ytgjclggjkhapfaa
open Go Go.Abs
theorem plainU : closedB Try.prog [3, 4, 9, 22, 60, 58, 62, 5, 48] = true := by kernel_rfl
theorem cellsU : Try.prog.cellsOf 5 = 1 := by kernel_rfl
theorem byte_of {n : Nat} {cs : List C} (h : hasTy Try.prog n 5 cs) : ∃ b : UInt8, cs = [.i .u8 (b.toNat : Int)] := by
  cases n with
  | zero => exact h.elim
  | succ n =>
    simp only [hasTy, Try.underlying5] at h
    obtain ⟨m, rfl, hm⟩ := h
    have hb : 0 ≤ m ∧ m < 256 := by
      have h1 : IntKind.u8.min = 0 := by kernel_rfl
      have h2 : IntKind.u8.max = 255 := by kernel_rfl
      simp only [Lit.wf, h1, h2, Bool.and_eq_true, decide_eq_true_eq] at hm
      omega
    exact ⟨UInt8.ofNat m.toNat, by rw [UInt8.toNat_ofNat']; congr 2; omega⟩
theorem bytes_of {n : Nat} {c : C} (h : hasTy Try.prog n 48 [c]) : ∃ l : List UInt8, c = .sl 1 (bytesR l) := by
  cases n with
  | zero => exact h.elim
  | succ n =>
    simp only [hasTy, Try.underlying48, cellsU] at h
    obtain ⟨es, h1, h5⟩ := h
    obtain ⟨ts, rfl⟩ := list_of (f := fun b : UInt8 => [C.i .u8 (b.toNat : Int)]) (fun row hr => byte_of hr) es h5
    exact ⟨ts, by simp only [List.cons.injEq, and_true] at h1; exact h1⟩
end Go.Proofs.Ytgjclggjkhapfaa
/- The given statement CodecSample: for every input the law returns true, and the input reads as before. No condition. -/
namespace Go.Proofs.Ytgjclggjkhapfaa.codecSampleDone
open Go Go.Abs Go.Proofs Go.Proofs.Ytgjclggjkhapfaa
open Go.ChangeShapes Go.WideShapes Go.ChangeAt Go.RowKit
set_option linter.unusedVariables false
set_option linter.unusedSimpArgs false
set_option maxRecDepth 100000 in
theorem lifted (os : Os) (started : os.Started) (H : Type) (enc : TypeId × Value → H) :
    ReturnsInHanded {} Try.checked os 9 .any (Rows.codecSampleSpec.pre6 enc Try.prog Try.f9 Rows.codecSampleRow.domain false) (Rows.codecSampleSpec.post enc Try.prog Try.f9 false true false false) := by
  refine returnsInHanded_of_change (C := Try.checked) own started (by kernel_rfl) Try.func9
    (ChangeSpec.witness6 (enc := enc) (C := Try.checked) false ⟨#[], #[.slice none 0 0, .int .i64 0, .slice none 0 0], []⟩ 8 (by kernel_rfl) (by kernel_rfl) (by kernel_rfl) (by kernel_rfl)) ?_
  intro W base args ds gs before hval0 hW hcnd _
  have hval : ∀ (j : Nat) t v, Try.f9.params[j]? = some t → args[j]? = some v → Value.okWide Try.prog W .any base t v := hval0
  have hW' := hW
  obtain ⟨p, q, hA0, hV, rfl, hfz, hnd⟩ := hW
  have hA : DataW.TrodAll enc Try.prog W 0 (fun _ => true) true Try.f9.params.toList args.toList ds p := hA0
  rw [Try.params9] at hA hval
  obtain ⟨v0, vs0, d0, ds0, p0, q0, hargs, rfl, rfl, h0, r0⟩ := trodAll_cons hA
  obtain ⟨v1, vs1, d1, ds1, p1, q1, rfl, rfl, rfl, h1, r1⟩ := trodAll_cons r0
  obtain ⟨v2, vs2, d2, ds2, p2, q2, rfl, rfl, rfl, h2, r2⟩ := trodAll_cons r1
  obtain ⟨rfl, rfl, rfl⟩ := trodAll_nil r2
  obtain rfl : args = #[v0, v1, v2] := by cases args; simp_all
  obtain ⟨rfl, rfl⟩ := trodVars_none hV
  have lt0 : ∀ x ∈ p0, x.block < W.heap.size := by obtain ⟨m, hm⟩ := h0; exact DataW.trod_lt m _ _ _ hm
  have lt1 : ∀ x ∈ p1, x.block < W.heap.size := by obtain ⟨m, hm⟩ := h1; exact DataW.trod_lt m _ _ _ hm
  have lt2 : ∀ x ∈ p2, x.block < W.heap.size := by obtain ⟨m, hm⟩ := h2; exact DataW.trod_lt m _ _ _ hm
  obtain ⟨n0, c0, ht0, hx0⟩ := arg_one plainU (by decide) Try.underlying22 rfl (hval 0 22 v0 rfl rfl) h0
  obtain ⟨x0_0, rfl⟩ := table_of ht0
  obtain ⟨n1, c1, ht1, hx1⟩ := arg_one plainU (by decide) Try.underlying3 rfl (hval 1 3 v1 rfl rfl) h1
  obtain ⟨x1_0, rfl⟩ := int1_of ht1
  obtain ⟨n2, c2, ht2, hx2⟩ := arg_one plainU (by decide) Try.underlying48 rfl (hval 2 48 v2 rfl rfl) h2
  obtain ⟨x2_0, rfl⟩ := bytes_of ht2
  refine (calls_true (CodecSample_spec x0_0 x1_0 x2_0) (W := W) (vs := [v0, v1, v2]) ⟨hx0, hx1, hx2, trivial⟩).mono fun e W' ⟨he, bel⟩ => ?_
  subst he
  exact ⟨_, rfl, _, _, _, [], _, [], hW', trodAll_mk1 (shut_bool Try.underlying4 _),
    (trodAll_cons_mk (Below.trod laidOut (by kernel_rfl) (of_decide_eq_true (by kernel_rfl)) h0 bel lt0) (trodAll_cons_mk (Below.trod laidOut (by kernel_rfl) (of_decide_eq_true (by kernel_rfl)) h1 bel lt1) (trodAll_cons_mk (Below.trod laidOut (by kernel_rfl) (of_decide_eq_true (by kernel_rfl)) h2 bel lt2) trodAll_mk0))), rfl, bel.frame _, fun h => by cases h⟩
theorem over : Rows.codecSampleRow.holds Try.pinned (OpenSpec.ofChange Rows.codecSampleSpec) :=
  OpenClaim.holds_of_wide 9 Try.f9 rfl rfl rfl rfl rfl rfl rfl ⟨rfl, rfl, rfl, rfl, rfl⟩ rfl rfl rfl rfl rfl (by kernel_rfl) Try.func9 (by kernel_rfl)
    (of_decide_eq_true (by kernel_rfl)) (by unfold Func.isWrapper; first | (rw [if_pos (by decide +kernel)]; kernel_rfl) | (rw [if_neg (by decide +kernel)]; exact ⟨rfl, rfl⟩))
    (fun os started H enc _ => lifted os started H enc)
theorem proved : Rows.CodecSampleSaid := over
#print axioms proved
end Go.Proofs.Ytgjclggjkhapfaa.codecSampleDone
