import Derived.Test.YtgnmhbkialgeaaaRows
import Derived.Test.YtgnmhbkialgeaaaZWireTakes25
import Derived.Test.YtgnmhbkialgeaaaZWireTakes26
import Derived.WalkKit
import Derived.ProofKit
import Derived.OpenShut
import Derived.ShutString
import Derived.ChangeOld
import Derived.Below
import Derived.SizedLaws
/- The row of WireTakes: whatever it is given, the law returns true. Its conditions: those of the given statement, and no others. -/
namespace Go.Proofs.Ytgnmhbkialgeaaa.wireTakesR
open Go.ChangeShapes Go.WideShapes Go.ChangeAt Go.RowKit Go.Proofs.YtgnmhbkialgeaaaW.PrintWords
open Go.ChangeMaps (open_string shut_string)
set_option linter.unusedVariables false
set_option linter.unusedSimpArgs false
theorem own : ownKnob Try.prog.godebug = none := by kernel_rfl
theorem laidOut : laidOutB Try.prog = true := by kernel_rfl
set_option maxRecDepth 100000 in
set_option maxHeartbeats 2000000 in
theorem lifted (os : Os) (started : os.Started) (H : Type) (enc : TypeId × Value → H) :
    ReturnsInHanded {} Try.checked os 6 .any (Rows.wireTakesSpec.pre6 enc Try.prog Try.f6 Rows.wireTakesRow.domain false) (Rows.wireTakesSpec.post enc Try.prog Try.f6 false true false false) := by
  refine returnsInHanded_of_change_sized (C := Try.checked) own started (by kernel_rfl) Try.func6
    (ChangeSpec.witness6 (enc := enc) (C := Try.checked) false ⟨#[], #[.string ByteArray.empty], []⟩ 8 (by kernel_rfl) (by kernel_rfl) (by kernel_rfl) (by kernel_rfl)) ?_
  intro W base args ds gs before hval0 hW hcnd hsz0 _
  have hsz : (DataW.weightsEach Try.prog (Try.f6.params.toList ++ Rows.wireTakesSpec.plain.varTypes Try.prog) (ds ++ gs)).all (· ≤ reachBytes) = true := hsz0
  have hval : ∀ (j : Nat) t v, Try.f6.params[j]? = some t → args[j]? = some v → Value.okWide Try.prog W .any base t v := hval0
  have hW' := hW
  obtain ⟨p, q, hA0, hV, rfl, hfz, hnd⟩ := hW
  have hA : DataW.TrodAll enc Try.prog W 0 (fun _ => true) true Try.f6.params.toList args.toList ds p := hA0
  rw [Try.params6] at hA hval hsz
  obtain ⟨v0, vs0, d0, ds0, p0, q0, hargs, rfl, rfl, h0, r0⟩ := trodAll_cons hA
  obtain ⟨rfl, rfl, rfl⟩ := trodAll_nil r0
  obtain rfl : args = #[v0] := by cases args; simp_all
  obtain ⟨rfl, rfl⟩ := trodVars_none hV
  have k0 := h0
  have lt0 : ∀ x ∈ p0, x.block < W.heap.size := by obtain ⟨m, hm⟩ := k0; exact DataW.trod_lt m _ _ _ hm
  obtain ⟨fuel0, hf0⟩ := h0
  obtain ⟨x0_, hK0, hG0, hB0⟩ := (Opn.Opens.open_ (enc := enc) (w := W) (Opn.opens_string Try.underlying9 (by kernel_rfl))) fuel0 _ _ _ hf0
  have hg0 := hG0 (fun n hn => by have h := List.all_eq_true.1 hsz n (DataW.weights_mem_each (j := 0) rfl rfl n hn); exact of_decide_eq_true h)
  obtain ⟨L0, hL0⟩ : ∃ L, L = (v0 : Value).cells.toList := ⟨_, rfl⟩
  rw [← hL0] at hK0
  clear hG0 hf0
  obtain rfl := hK0
  obtain ⟨b0_, rfl⟩ := okWide_string Try.underlying9 (hval 0 9 v0 rfl rfl)
  obtain rfl : x0_ = b0_ := by simp [Value.cells] at hL0; exact hL0
  have hq0 : x0_.size ≤ 140737488351232 := by have h := hg0; exact h
  clear hA0 hval0 hsz0 hsz
  obtain ⟨k, hp⟩ := Pure.WireTakes x0_ hq0
  refine (Go.Proofs.Ytgnmhbkialgeaaa.Q.copyholdlaw15_WireTakes.calls k x0_ true W  hp).mono ?_
  rintro e W' ⟨rfl, bel0⟩
  have bel : Below W.heap.size W W' := bel0
  exact ⟨_, rfl, _, _, _, [], _, [], hW', trodAll_mk1 (shut_bool Try.underlying4 _), (trodAll_cons_mk (Below.trod laidOut (by kernel_rfl) (of_decide_eq_true (by kernel_rfl)) k0 bel lt0) trodAll_mk0), rfl, bel.frame _, fun h => by cases h⟩
theorem over : Rows.wireTakesRow.holds Try.pinned (OpenSpec.ofChange Rows.wireTakesSpec) :=
  OpenClaim.holds_of_wide 6 Try.f6 rfl rfl rfl rfl rfl rfl rfl ⟨rfl, rfl, rfl, rfl, rfl⟩ rfl rfl rfl rfl rfl (by kernel_rfl) Try.func6 (by kernel_rfl)
    (of_decide_eq_true (by kernel_rfl)) (by unfold Func.isWrapper; first | (rw [if_pos (by decide +kernel)]; kernel_rfl) | (rw [if_neg (by decide +kernel)]; exact ⟨rfl, rfl⟩))
    (fun os started H enc _ => lifted os started H enc)
theorem proved : Rows.WireTakesSaid := over
#print axioms proved
end Go.Proofs.Ytgnmhbkialgeaaa.wireTakesR
namespace Go.Proofs.Ytgnmhbkialgeaaa
/-- The row, under a short name, for the claim. -/
theorem wireTakes_holds : Rows.WireTakesSaid := wireTakesR.proved
end Go.Proofs.Ytgnmhbkialgeaaa
