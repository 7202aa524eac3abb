/- From readings to terms and lists of terms. -/
import Derived.Test.YtginljdgdllhfaaEq
import Derived.Test.YtginljdgdllhfaaAbs19
import Derived.Test.YtginljdgdllhfaaChecked
set_option linter.unusedVariables false
set_option linter.unusedSimpArgs false
namespace Go.Proofs.Ytginljdgdllhfaa
open Go Go.Abs
theorem plainL : closedB Try.prog [3, 4, 9, 22, 26] = true := by kernel_rfl
theorem cells26 : Try.prog.cellsOf 26 = 4 := by kernel_rfl
theorem int_of {n : Nat} {cs : List C} (h : hasTy Try.prog n 3 cs) : ∃ m, cs = [.i .i64 m] ∧ (Lit.int .i64 m).wf = true := by
  cases n with
  | zero => exact h.elim
  | succ n => simp only [hasTy, Try.underlying3] at h; exact h
theorem str_of {n : Nat} {cs : List C} (h : hasTy Try.prog n 9 cs) : ∃ l, cs = [.s l] := by
  cases n with
  | zero => exact h.elim
  | succ n => simp only [hasTy, Try.underlying9] at h; exact h
theorem list_of {R : List C → Prop} (h : ∀ row, R row → ∃ t : T, row = t.cells) : ∀ es : List (List C), (∀ row, row ∈ es → R row) → ∃ ts : List T, es = T.rows ts
  | [], _ => ⟨[], by rw [T.rows]⟩
  | e :: es, he => by
    obtain ⟨t, ht⟩ := h e (he e (List.mem_cons_self ..))
    obtain ⟨ts, hts⟩ := list_of h es fun row hr => he row (List.mem_cons_of_mem _ hr)
    exact ⟨t :: ts, by rw [T.rows, ← hts, ht, T.cells_eq]⟩
theorem term_of : ∀ (n : Nat) (cs : List C), hasTy Try.prog n 26 cs → ∃ t : T, cs = t.cells
  | 0, cs, h => h.elim
  | 1, cs, h => by
    simp only [hasTy, Try.underlying26, hasFs] at h
    obtain ⟨_, _, _, h, _⟩ := h
    exact h.elim
  | n + 2, cs, h => by
    have ih := term_of n
    rw [hasTy] at h
    simp only [Try.underlying26, hasFs] at h
    obtain ⟨a, b, rfl, h1, c, d, rfl, h2, e, f, rfl, h3, g, k, rfl, h4, rfl⟩ := h
    obtain ⟨m1, rfl, _⟩ := int_of h1
    obtain ⟨m2, rfl⟩ := str_of h2
    obtain ⟨m3, rfl, _⟩ := int_of h3
    rw [hasTy] at h4
    simp only [Try.underlying22, cells26] at h4
    obtain ⟨es, rfl, h5⟩ := h4
    obtain ⟨ts, rfl⟩ := list_of ih es h5
    exact ⟨.mk m1 m2 m3 ts, rfl⟩
theorem terms_of {n : Nat} {c : C} (h : hasTy Try.prog n 22 [c]) : ∃ ts : List T, c = .sl 4 (T.rows ts) := by
  cases n with
  | zero => exact h.elim
  | succ n =>
    simp only [hasTy, Try.underlying22, cells26] at h
    obtain ⟨es, h1, h5⟩ := h
    obtain ⟨ts, rfl⟩ := list_of (term_of n) es h5
    exact ⟨ts, by simpa using h1⟩
theorem str1_of {n : Nat} {c : C} (h : hasTy Try.prog n 9 [c]) : ∃ l, c = .s l := by
  obtain ⟨l, hl⟩ := str_of h
  exact ⟨l, by simpa using hl⟩
theorem int1_of {n : Nat} {c : C} (h : hasTy Try.prog n 3 [c]) : ∃ m, c = .i .i64 m := by
  obtain ⟨l, hl, _⟩ := int_of h
  exact ⟨l, by simpa using hl⟩
theorem own : ownKnob Try.prog.godebug = none := by kernel_rfl
theorem laidOut : laidOutB Try.prog = true := by kernel_rfl
end Go.Proofs.Ytginljdgdllhfaa
