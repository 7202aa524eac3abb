/- From readings to claims and questions. -/
import Derived.Test.YtginljdgdllhfaaTop
import Derived.Test.YtginljdgdllhfaaLaw56b
namespace Go.Proofs.Ytginljdgdllhfaa
open Go Go.Abs
theorem bool_of {n : Nat} {cs : List C} (h : hasTy Try.prog n 4 cs) : ∃ m, cs = [.b m] := by
  cases n with
  | zero => exact h.elim
  | succ n => simp only [hasTy, Try.underlying4] at h; exact h
theorem termsl_of {n : Nat} {cs : List C} (h : hasTy Try.prog n 22 cs) : ∃ ts : List T, cs = [.sl 4 (T.rows ts)] := by
  cases n with
  | zero => exact h.elim
  | succ n =>
    simp only [hasTy, Try.underlying22, cells26] at h
    obtain ⟨es, h1, h5⟩ := h
    obtain ⟨ts, rfl⟩ := list_of (term_of n) es h5
    exact ⟨ts, h1⟩
theorem claim_of {n : Nat} {cs : List C} (h : hasTy Try.prog n 43 cs) : ∃ i t p r, cs = claimC i t p r := by
  cases n with
  | zero => exact h.elim
  | succ n =>
    simp only [hasTy, Try.underlying43, hasFs] at h
    obtain ⟨a, b, rfl, h1, c, d, rfl, h2, e, f, rfl, h3, g, k, rfl, h4, rfl⟩ := h
    obtain ⟨m1, rfl, _⟩ := int_of h1
    obtain ⟨t, rfl⟩ := term_of _ _ h2
    obtain ⟨p, rfl⟩ := termsl_of h3
    obtain ⟨r, rfl⟩ := bool_of h4
    exact ⟨m1, t, p, r, rfl⟩
theorem check_of {n : Nat} {cs : List C} (h : hasTy Try.prog n 47 cs) : ∃ hd o k i p, cs = checkC hd o k i p := by
  cases n with
  | zero => exact h.elim
  | succ n =>
    simp only [hasTy, Try.underlying47, hasFs] at h
    obtain ⟨a, b, rfl, h1, c, d, rfl, h2, e, f, rfl, h3, g, k, rfl, h4, u, v, rfl, h5, rfl⟩ := h
    obtain ⟨t1, rfl⟩ := term_of _ _ h1
    obtain ⟨t2, rfl⟩ := term_of _ _ h2
    obtain ⟨m1, rfl, _⟩ := int_of h3
    obtain ⟨m2, rfl, _⟩ := int_of h4
    obtain ⟨p, rfl⟩ := termsl_of h5
    exact ⟨t1, t2, m1, m2, p, rfl⟩
end Go.Proofs.Ytginljdgdllhfaa
