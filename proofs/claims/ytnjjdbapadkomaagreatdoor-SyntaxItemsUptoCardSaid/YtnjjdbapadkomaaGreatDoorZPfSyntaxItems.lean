/- The given statement SyntaxItems in its second form (arguments of bulk at most 1048576): the law returns true, and the input reads as before. -/
import Derived.Test.YtnjjdbapadkomaaGreatDoorM6
import Derived.Test.YtnjjdbapadkomaaGreatDoorRows
import Derived.Test.YtnjjdbapadkomaaGreatDoorCards
import Derived.Test.YtnjjdbapadkomaaGreatDoorTie
import Derived.LaidMore
import Derived.Lay
import Derived.MakeChecks
import Derived.SevenTiedAt
import Derived.Stop.Joined
import Derived.ProofKit
import Derived.OpenShut
import Derived.ChangeOld
import Derived.Deep.DeepHandedRow
set_option linter.unusedVariables false
set_option linter.unusedSimpArgs false
namespace Go.Proofs.YtnjjdbapadkomaaGreatDoor.syntaxItemsDone
open Go Go.Abs Go.Proofs Go.Proofs.YtnjjdbapadkomaaGreatDoor
open Go.ChangeShapes Go.WideShapes Go.ChangeAt Go.RowKit
theorem reads (os : Os) {H : Type} (enc : TypeId × Value → H) : ∃ places, DataW.whole enc Tryz.prog ((World.laidAll Tryz.prog os Rows.syntaxItemsUptoRow.laid).forCall (fun _ _ => 0) ⟨#[], #[.agg #[.string ByteArray.empty, .slice none 0 0, .slice none 0 0, .slice none 0 0, .slice none 0 0, .slice none 0 0], .int .u8 0], []⟩).memory Tryz.f6.params.toList Rows.syntaxItemsSpec.vars false #[.agg #[.string ByteArray.empty, .slice none 0 0, .slice none 0 0, .slice none 0 0, .slice none 0 0, .slice none 0 0], .int .u8 0].toList 8 = some ([.agg [.lit (.string []), .nil, .nil, .nil, .nil, .nil], .lit (.int .u8 0)], [], places) :=
  ⟨[], by kernel_rfl⟩
set_option maxRecDepth 100000 in
theorem lifted (os : Os) (started : os.Started) (H : Type) (enc : TypeId × Value → H) (F : Stop.Interp) :
    ReturnsInHanded {} Tryz.checked os 6 .any ((Rows.OpenSpec.upto Rows.syntaxItemsSpec).preRow enc Tryz.prog Tryz.f6 Rows.syntaxItemsUptoRow.domain false Rows.syntaxItemsUptoRow.laid) (((Rows.OpenSpec.upto Rows.syntaxItemsSpec).at F).post enc Tryz.prog Tryz.f6 false true false false) := by
  obtain ⟨places, hx⟩ := reads os enc
  refine returnsInHanded_of_row (C := Tryz.checked) (s := Rows.OpenSpec.upto Rows.syntaxItemsSpec) own started (by kernel_rfl) Tryz.func6
    ⟨(World.laidAll Tryz.prog os Rows.syntaxItemsUptoRow.laid), fun _ _ => 0, ⟨#[], #[.agg #[.string ByteArray.empty, .slice none 0 0, .slice none 0 0, .slice none 0 0, .slice none 0 0, .slice none 0 0], .int .u8 0], []⟩, World.laidAll_os _ _ _, World.shaped_of_ZipB (by kernel_rfl) (by kernel_rfl), rfl, (Input.okWide_of_okWideB (by kernel_rfl)).2,
      OpenSpec.preRow_of_cond 8 hx (by kernel_rfl) (fun k hk => by cases hk; kernel_rfl) (by kernel_rfl) (by rw [MakeChecks.laidMetH_plain _ _ _ (by kernel_rfl)]; exact laidMet_laidAll _ (by kernel_rfl) (by kernel_rfl)), by
      simp only [Assume.holds]
      exact ⟨by simp, by simp, fun _ => Modest.zero, by simp, by simp⟩⟩ ?_
  intro W base args ds gs before hval0 hW _ hcond _ hL hsh _
  have hbk : Rows.uptoBulkAll (ds ++ gs) ≤ 1048576 := of_decide_eq_true (hcond _ rfl)
  have hval : ∀ (j : Nat) t v, Tryz.f6.params[j]? = some t → args[j]? = some v → Value.okWide Tryz.prog W .any base t v := hval0
  have hW' := hW
  obtain ⟨p, q, hA0, hV, rfl, hfz, hnd⟩ := hW
  have hA : DataW.TrodAll enc Tryz.prog W 0 (fun _ => true) true Tryz.f6.params.toList args.toList ds p := hA0
  rw [Tryz.params6] at hA hval
  obtain ⟨v0, vs0, d0, ds0, p0, q0, hargs, rfl, rfl, h0, r0⟩ := trodAll_cons hA
  obtain ⟨v1, vs1, d1, ds1, p1, q1, rfl, rfl, rfl, h1, r1⟩ := trodAll_cons r0
  obtain ⟨rfl, rfl, rfl⟩ := trodAll_nil r1
  obtain rfl : args = #[v0, v1] := by cases args; simp_all
  obtain ⟨rfl, rfl⟩ := trodVars_none hV
  have lt0 : ∀ x ∈ p0, x.block < W.heap.size := by obtain ⟨m, hm⟩ := h0; exact DataW.trod_lt m _ _ _ hm
  have lt1 : ∀ x ∈ p1, x.block < W.heap.size := by obtain ⟨m, hm⟩ := h1; exact DataW.trod_lt m _ _ _ hm
  have hb0 : Rows.uptoBulk d0 ≤ 1048576 := Nat.le_trans (uFx (by simp)) hbk
  obtain ⟨n0, c0, ht0, hx0⟩ := uNV uJH uOH (by decide) Tryz.underlying27 rfl (hval 0 27 v0 rfl rfl) hb0 h0
  obtain ⟨x0, rfl⟩ := uPL ht0
  have hb1 : Rows.uptoBulk d1 ≤ 1048576 := Nat.le_trans (uFx (by simp)) hbk
  obtain ⟨n1, c1, ht1, hx1⟩ := uNE uJH uOH (by decide) Tryz.underlying5 rfl (hval 1 5 v1 rfl rfl) hb1 h1
  obtain ⟨x1, rfl⟩ := uOq ht1
  refine (uLf (uGh x0.1 x1 x0.2) (W := W) (vs := [v0, v1]) ⟨hx0, hx1, trivial⟩ (uPD hsh)).mono fun e W' ⟨he, bel⟩ => ?_
  subst he
  exact ⟨_, rfl, _, _, _, [], _, [], hW', trodAll_mk1 (shut_bool Tryz.underlying4 _),
    (trodAll_cons_mk (Below.trod uL2 (by kernel_rfl) (of_decide_eq_true (by kernel_rfl)) h0 bel lt0) (trodAll_cons_mk (Below.trod uL2 (by kernel_rfl) (of_decide_eq_true (by kernel_rfl)) h1 bel lt1) trodAll_mk0)), rfl, bel.frame _, fun h => by cases h⟩
theorem over : Rows.syntaxItemsUptoRow.holds Tryz.pinned (Rows.OpenSpec.upto Rows.syntaxItemsSpec) :=
  OpenClaim.holds_of_cond 6 Tryz.f6 rfl rfl rfl rfl rfl rfl rfl ⟨rfl, rfl, rfl, rfl, rfl⟩ rfl rfl rfl rfl rfl (by kernel_rfl) Tryz.func6 (by kernel_rfl)
    (of_decide_eq_true (by kernel_rfl)) (by unfold Func.isWrapper; first | (rw [if_pos (by decide +kernel)]; kernel_rfl) | (rw [if_neg (by decide +kernel)]; exact ⟨rfl, rfl⟩))
    (fun os started H enc _ F => by rw [OpenClaim.pre_eq_preRow]; exact lifted os started H enc F)
theorem proved : Rows.SyntaxItemsUptoCardSaid :=
  Claim7.holds_tied_plain_at .later [] [.data,.pinned] true (true, Rows.syntaxItemsUptoCard.stood.harness.2) false
    over (fun _ h => by cases h) (by kernel_rfl) (fun _ h => by cases h) syntaxItemsUpto_row_tie rfl ⟨rfl, rfl⟩ (by kernel_rfl) rfl
    (fun f fn hf hfn => by
      obtain rfl : f = 6 := Option.some.inj ((show Tryz.prog.funcNamed "sealring/sealringlaw22.SyntaxItems" = some 6 by kernel_rfl).symm.trans hf) |>.symm
      obtain rfl : fn = Tryz.f6 := (Option.some.inj (Tryz.func6.symm.trans hfn)).symm
      exact ⟨by kernel_rfl, fun j t ht => by
        rw [Tryz.params6] at ht
        have hm : t ∈ [27, 5] := by simpa using Array.mem_of_getElem? ht
        have hall : ([27, 5].all fun u => !Tryz.prog.wantsStandIn u) = true := by kernel_rfl
        exact (show Tryz.prog.wantsStandIn t = false by simpa using List.all_eq_true.1 hall t hm)⟩)
    (by kernel_rfl)
#print axioms proved
end Go.Proofs.YtnjjdbapadkomaaGreatDoor.syntaxItemsDone
