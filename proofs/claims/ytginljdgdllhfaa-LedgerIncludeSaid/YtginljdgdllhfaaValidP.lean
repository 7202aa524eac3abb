/- Errors of terms, plain: the first error of a node in preorder, levels, and the counts of the checker. -/
import Derived.Test.YtginljdgdllhfaaNames
set_option linter.unusedVariables false
set_option linter.unusedSimpArgs false
namespace Go.Proofs.Ytginljdgdllhfaa
open Go Go.Abs
def nodeE (t : T) : Int :=
  if (t.kind = 1 ∨ t.kind = 2) ∧ 0 ≤ t.sort ∧ t.sort ≤ 5 ∧ t.kids.length = 0 ∨ t.kind = 3 ∧ t.sort = 0 then
    if nameB t.name = true then (if 8 < t.kids.length then 3 else 0) else 2
  else 1
namespace T
mutual
def nodesE : T → Int
  | mk k n s ks => if nodeE (mk k n s ks) ≠ 0 then nodeE (mk k n s ks) else nodesEs ks
def nodesEs : List T → Int
  | [] => 0
  | t :: ts => if nodesE t ≠ 0 then nodesE t else nodesEs ts
end
theorem nodesE_eq (t : T) : t.nodesE = if nodeE t ≠ 0 then nodeE t else nodesEs t.kids := by cases t; rw [nodesE]; rfl
theorem nodesEs_hit : ∀ (ts : List T) (k : Nat) (x : T), ts[k]? = some x → nodesEs (ts.take k) = 0 → x.nodesE ≠ 0 → nodesEs ts = x.nodesE
  | [], k, x, h, _, _ => by simp at h
  | t :: ts, 0, x, h, _, hx => by simp at h; subst h; rw [nodesEs, if_pos hx]
  | t :: ts, k + 1, x, h, h0, hx => by
    rw [List.take_succ_cons, nodesEs] at h0
    rw [nodesEs]
    by_cases ht : t.nodesE = 0
    · rw [if_neg (by simpa using ht)] at h0
      rw [if_neg (by simpa using ht)]
      exact nodesEs_hit ts k x (by simpa using h) h0 hx
    · rw [if_pos ht] at h0; exact absurd h0 ht
theorem nodesEs_step : ∀ (ts : List T) (k : Nat) (x : T), ts[k]? = some x → nodesEs (ts.take k) = 0 → x.nodesE = 0 → nodesEs (ts.take (k + 1)) = 0
  | [], k, x, h, _, _ => by simp at h
  | t :: ts, 0, x, h, _, hx => by simp at h; subst h; simp [nodesEs, hx]
  | t :: ts, k + 1, x, h, h0, hx => by
    rw [List.take_succ_cons, nodesEs] at h0
    rw [List.take_succ_cons, nodesEs]
    by_cases ht : t.nodesE = 0
    · rw [if_neg (by simpa using ht)] at h0
      rw [if_neg (by simpa using ht)]
      exact nodesEs_step ts k x (by simpa using h) h0 hx
    · rw [if_pos ht] at h0; exact absurd h0 ht
mutual
def depth : T → Nat
  | mk _ _ _ ks => depths ks + 1
def depths : List T → Nat
  | [] => 0
  | t :: ts => max (depth t) (depths ts)
end
theorem depth_eq (t : T) : t.depth = depths t.kids + 1 := by cases t; rw [depth]; rfl
theorem depths_take : ∀ (ts : List T) (k : Nat) (x : T), ts[k]? = some x → depths (ts.take (k + 1)) = max (depths (ts.take k)) x.depth
  | [], k, x, h => by simp at h
  | t :: ts, 0, x, h => by simp at h; subst h; simp [depths]
  | t :: ts, k + 1, x, h => by
    have := depths_take ts k x (by simpa using h)
    simp only [List.take_succ_cons, depths]
    omega
mutual
theorem depth_le : ∀ t : T, t.depth ≤ t.size
  | mk k n s ks => by have := depths_le ks; rw [depth, size]; omega
theorem depths_le : ∀ ts : List T, depths ts ≤ sizes ts
  | [] => by simp [depths]
  | t :: ts => by have h1 := depth_le t; have h2 := depths_le ts; rw [depths, sizes]; omega
end
theorem depths_take_le : ∀ (ts : List T) (k : Nat), depths (ts.take k) ≤ depths ts
  | [], k => by simp
  | t :: ts, 0 => by simp [depths]
  | t :: ts, k + 1 => by have := depths_take_le ts k; simp only [List.take_succ_cons, depths]; omega
/-- What the checker leaves: the error, the number of nodes, and the deepest level. -/
structure Chk where
  e : Int
  n : Int
  d : Int
mutual
def chk : T → Int → Int → Int → Chk
  | mk k nm s ks, lv, n, d => if nodeE (mk k nm s ks) ≠ 0 then ⟨nodeE (mk k nm s ks), n + 1, max d lv⟩ else chks ks (lv + 1) (n + 1) (max d lv)
def chks : List T → Int → Int → Int → Chk
  | [], _, n, d => ⟨0, n, d⟩
  | t :: ts, lv, n, d => if (chk t lv n d).e ≠ 0 then chk t lv n d else chks ts lv (chk t lv n d).n (chk t lv n d).d
end
theorem chk_eq (t : T) (lv n d : Int) : t.chk lv n d = if nodeE t ≠ 0 then ⟨nodeE t, n + 1, max d lv⟩ else chks t.kids (lv + 1) (n + 1) (max d lv) := by cases t; rw [chk]; rfl
mutual
theorem chk_e : ∀ (t : T) (lv n d : Int), (t.chk lv n d).e = t.nodesE
  | mk k nm s ks, lv, n, d => by
    rw [chk, nodesE]
    split
    · rfl
    · exact chks_e ks _ _ _
theorem chks_e : ∀ (ts : List T) (lv n d : Int), (chks ts lv n d).e = nodesEs ts
  | [], _, _, _ => by rw [chks, nodesEs]
  | t :: ts, lv, n, d => by
    rw [chks, nodesEs]
    rw [chk_e t lv n d]
    split
    · exact chk_e t lv n d
    · exact chks_e ts _ _ _
end
mutual
theorem chk_n : ∀ (t : T) (lv n d : Int), n ≤ (t.chk lv n d).n ∧ (t.chk lv n d).n ≤ n + t.size ∧ (t.nodesE = 0 → (t.chk lv n d).n = n + t.size)
  | mk k nm s ks, lv, n, d => by
    rw [chk, nodesE, size]
    have h := chks_n ks (lv + 1) (n + 1) (max d lv)
    split
    · dsimp only; exact ⟨by omega, by omega, fun hh => absurd hh (by assumption)⟩
    · exact ⟨by omega, by omega, fun hh => by have := h.2.2 hh; omega⟩
theorem chks_n : ∀ (ts : List T) (lv n d : Int), n ≤ (chks ts lv n d).n ∧ (chks ts lv n d).n ≤ n + sizes ts ∧ (nodesEs ts = 0 → (chks ts lv n d).n = n + sizes ts)
  | [], _, n, _ => by rw [chks, sizes]; dsimp only; omega
  | t :: ts, lv, n, d => by
    rw [chks, nodesEs, sizes, chk_e]
    have h := chk_n t lv n d
    have h2 := chks_n ts lv (t.chk lv n d).n (t.chk lv n d).d
    split
    · exact ⟨by omega, by omega, fun hh => absurd hh (by assumption)⟩
    · rename_i hz
      have hz' : t.nodesE = 0 := by simpa using hz
      have := h.2.2 hz'
      exact ⟨by omega, by omega, fun hh => by have := h2.2.2 hh; omega⟩
end
mutual
theorem chk_d : ∀ (t : T) (lv n d : Int), t.nodesE = 0 → (t.chk lv n d).d = max d (lv + t.depth - 1)
  | mk k nm s ks, lv, n, d, h => by
    rw [nodesE] at h
    rw [chk, depth]
    split
    · rename_i hz; rw [if_pos hz] at h; exact absurd h hz
    · rename_i hz
      rw [if_neg hz] at h
      rw [chks_d ks (lv + 1) (n + 1) (max d lv) h]
      split <;> omega
theorem chks_d : ∀ (ts : List T) (lv n d : Int), nodesEs ts = 0 → (chks ts lv n d).d = if depths ts = 0 then d else max d (lv + depths ts - 1)
  | [], _, n, d, _ => by rw [chks, depths]; simp
  | t :: ts, lv, n, d, h => by
    rw [nodesEs] at h
    rw [chks, depths, chk_e]
    split
    · rename_i hz; rw [if_pos hz] at h; exact absurd h hz
    · rename_i hz
      rw [if_neg hz] at h
      rw [chks_d ts lv _ _ h, chk_d t lv n d (by simpa using hz)]
      have hd : 1 ≤ t.depth := by rw [depth_eq]; omega
      split <;> split <;> omega
end
theorem chks_append : ∀ (a b : List T) (lv n d : Int), chks (a ++ b) lv n d = if (chks a lv n d).e ≠ 0 then chks a lv n d else chks b lv (chks a lv n d).n (chks a lv n d).d
  | [], b, lv, n, d => by rw [List.nil_append]; simp [chks]
  | t :: a, b, lv, n, d => by
    rw [List.cons_append, chks, chks]
    by_cases h : (t.chk lv n d).e ≠ 0
    · rw [if_pos h, if_pos h, if_pos h]
    · rw [if_neg h, if_neg h, chks_append a b]
theorem take_succ {ts : List T} {k : Nat} {x : T} (h : ts[k]? = some x) : ts.take (k + 1) = ts.take k ++ [x] := by
  rw [List.take_add_one, h]; rfl
theorem chks_step {ts : List T} {k : Nat} {x : T} {lv n d : Int} (h : ts[k]? = some x) (h0 : (chks (ts.take k) lv n d).e = 0) (hx : x.nodesE = 0) :
    chks (ts.take (k + 1)) lv n d = x.chk lv (chks (ts.take k) lv n d).n (chks (ts.take k) lv n d).d := by
  rw [take_succ h, chks_append, if_neg (by simpa using h0), chks, chk_e, if_neg (by simpa using hx), chks]
  have := chk_e x lv (chks (ts.take k) lv n d).n (chks (ts.take k) lv n d).d
  rw [hx] at this
  cases hc : x.chk lv (chks (ts.take k) lv n d).n (chks (ts.take k) lv n d).d
  rw [hc] at this
  simp at this
  simp [this]
theorem chks_hit {ts : List T} {k : Nat} {x : T} {lv n d : Int} (h : ts[k]? = some x) (h0 : (chks (ts.take k) lv n d).e = 0) (hx : x.nodesE ≠ 0) :
    chks ts lv n d = x.chk lv (chks (ts.take k) lv n d).n (chks (ts.take k) lv n d).d := by
  have hs : ts = ts.take k ++ (x :: ts.drop (k + 1)) := by
    have hlt := (List.getElem?_eq_some_iff.1 h)
    obtain ⟨hl, he⟩ := hlt
    rw [← he, List.getElem_cons_drop, List.take_append_drop]
  conv => lhs; rw [hs]
  rw [chks_append, if_neg (by simpa using h0), chks, chk_e, if_pos hx]
end T
def validE (t : T) : Int := if t.nodesE ≠ 0 then t.nodesE else if 400 < t.size ∨ 40 < t.depth then 3 else 0
end Go.Proofs.Ytginljdgdllhfaa
