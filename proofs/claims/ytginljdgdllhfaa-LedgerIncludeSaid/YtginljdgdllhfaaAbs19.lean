/- The top of a law: its contract answers the given statement's call. -/
import Derived.Test.YtginljdgdllhfaaAbs18
import Derived.Below
set_option linter.unusedVariables false
set_option linter.unusedSimpArgs false
namespace Go.Abs
open Go.RowKit (Below)

section
variable {H : Type} {enc : TypeId × Value → H} {P : Program} {L : List TypeId} {w : World}

def plainD : TypeDesc → Bool
  | .bool | .int _ | .string | .slice _ => true
  | _ => false
def rowD : TypeDesc → Bool
  | .struct _ | .array _ _ => true
  | _ => false

theorem okWide_plain {t : TypeId} {v : Value} {r : Reach} {base : Nat} {d : TypeDesc} (hd : P.underlying t = some d) (hp : plainD d = true) (h : Value.okWide P w r base t v) : v.oneCell' = true := by
  cases d <;> simp [plainD] at hp <;> simp only [Value.okWide, Cell.okWide, Cell.ok, hd] at h <;> cases v <;> first | rfl | (simp at h)
theorem okWide_row {t : TypeId} {v : Value} {r : Reach} {base : Nat} {d : TypeDesc} (hd : P.underlying t = some d) (hp : rowD d = true) (h : Value.okWide P w r base t v) : ∃ cs, v = .agg cs := by
  cases d <;> simp [rowD] at hp <;> simp only [Value.okWide, hd] at h <;> obtain ⟨cs, rfl, _⟩ := h <;> exact ⟨cs, rfl⟩

/-- An argument of one cell. -/
theorem arg_one (hL : closedB P L = true) {t : TypeId} {v : Value} {base : Nat} {d : TypeDesc} {x : DataW H} {p : List MemPlace} (ht : t ∈ L) (hd : P.underlying t = some d) (hp : plainD d = true) (hok : Value.okWide P w .any base t v)
    (h : DataW.Trod enc P w 0 (fun _ => true) true t v x p) : ∃ n c, hasTy P n t [c] ∧ XRep w (topG w) (.v (.c c)) v := by
  obtain ⟨n, hn⟩ := h
  rw [cells_one (okWide_plain hd hp hok)] at hn
  obtain ⟨cs, h1, h2, _⟩ := trod_has hL n t _ _ _ ht hn
  match cs, h2 with
  | [c], h2 => exact ⟨n, c, h1, h2.1⟩
/-- An argument that is a row of cells. -/
theorem arg_row (hL : closedB P L = true) {t : TypeId} {v : Value} {base : Nat} {d : TypeDesc} {x : DataW H} {p : List MemPlace} (ht : t ∈ L) (hd : P.underlying t = some d) (hp : rowD d = true) (hok : Value.okWide P w .any base t v)
    (h : DataW.Trod enc P w 0 (fun _ => true) true t v x p) : ∃ n cs, hasTy P n t cs ∧ XRep w (topG w) (.v (.agg cs)) v := by
  obtain ⟨n, hn⟩ := h
  obtain ⟨vs, rfl⟩ := okWide_row hd hp hok
  obtain ⟨cs, h1, h2, _⟩ := trod_has hL n t _ _ _ ht hn
  exact ⟨n, cs, h1, vs.toList, by simp, by simpa [Value.cells] using h2⟩
end

/-- A contract over values that came in is a call that writes nothing that was there. -/
theorem calls_top {Z : Pg} {f : FuncId} {xs : List X} {res : Value} {x : X} (hres : ∀ (w : World) (G : Gh) (v : Value), XRep w G x v → v = res) (hc : Ctr Z f xs [] x none []) {W : World} {vs : List Value} (h : All2 (XRep W (topG W)) xs vs) :
    Calls Z.P f vs.toArray W fun e w' => e = .returned res ∧ Below W.heap.size W w' := by
  have hno : ∀ b o, ¬ ∃ n, (topG W).W b o = .box n := by
    intro b o ⟨n, hn⟩
    simp only [topG] at hn
    split at hn <;> simp at hn
  refine (hc.2 W (topG W) vs h (fun b o hb => ?_) (fun j cs hj => by simp at hj) (fun b o n hn => absurd ⟨n, hn⟩ (hno b o)) (fun b o p hp => ?_)).mono ?_
  · simp only [topG] at hb
    split at hb
    · assumption
    · simp at hb
  · simp only [topG] at hp
    split at hp <;> simp at hp
  · rintro e w' ⟨v, G', rfl, hf, _, _, _, hv, _⟩
    refine ⟨by rw [hres _ _ _ hv], hf.os, hf.tape, hf.output, hf.size, fun k hk => hf.block k hk fun o ho => hno k o ho⟩
theorem calls_true {Z : Pg} {f : FuncId} {xs : List X} (hc : Ctr Z f xs [] (.v (.c (.b true))) none []) {W : World} {vs : List Value} (h : All2 (XRep W (topG W)) xs vs) :
    Calls Z.P f vs.toArray W fun e w' => e = .returned (.bool true) ∧ Below W.heap.size W w' :=
  calls_top (fun _ _ _ h => XRep.bool h) hc h
end Go.Abs
