/- The row of DataSame: whatever it is given, the law returns true. Its conditions: those of the given statement, and no others. -/
import Derived.Test.YtiiljkinekjkbaaRows
import Derived.Test.YtiiljkinekjkbaaDatQ
import Derived.Test.YtiiljkinekjkbaaOpens
import Derived.Test.YtiiljkinekjkbaaPureDataSame
import Derived.WalkKit
import Derived.ProofKit
import Derived.OpenShut
import Derived.ShutString
import Derived.ChangeOld
import Derived.Below
import Derived.SizedLaws
namespace Go.Proofs.Ytiiljkinekjkbaa.dataSameR
open Go.ChangeShapes Go.WideShapes Go.ChangeAt Go.RowKit Go.Proofs.YtiiljkinekjkbaaW.PrintWords
open Go.ChangeMaps (open_string shut_string)
set_option linter.unusedVariables false
set_option linter.unusedSimpArgs false
theorem own : ownKnob Try.prog.godebug = none := by kernel_rfl
theorem laidOut : laidOutB Try.prog = true := by kernel_rfl
set_option maxRecDepth 100000 in
set_option maxHeartbeats 2000000 in
theorem lifted (os : Os) (started : os.Started) (H : Type) (enc : TypeId × Value → H) :
    ReturnsInHanded {} Try.checked os 6 .any (Rows.dataSameSpec.pre6 enc Try.prog Try.f6 Rows.dataSameRow.domain false) (Rows.dataSameSpec.post enc Try.prog Try.f6 false true false false) := by
  refine returnsInHanded_of_change_sized (C := Try.checked) own started (by kernel_rfl) Try.func6
    (ChangeSpec.witness6 (enc := enc) (C := Try.checked) false ⟨#[], #[.string ByteArray.empty, .string ByteArray.empty], []⟩ 8 (by kernel_rfl) (by kernel_rfl) (by kernel_rfl) (by kernel_rfl)) ?_
  intro W base args ds gs before hval0 hW hcnd hsz0 _
  have hsz : (DataW.weightsEach Try.prog (Try.f6.params.toList ++ Rows.dataSameSpec.plain.varTypes Try.prog) (ds ++ gs)).all (· ≤ reachBytes) = true := hsz0
  have hval : ∀ (j : Nat) t v, Try.f6.params[j]? = some t → args[j]? = some v → Value.okWide Try.prog W .any base t v := hval0
  have hW' := hW
  obtain ⟨p, q, hA0, hV, rfl, hfz, hnd⟩ := hW
  have hA : DataW.TrodAll enc Try.prog W 0 (fun _ => true) true Try.f6.params.toList args.toList ds p := hA0
  rw [Try.params6] at hA hval hsz
  obtain ⟨v0, vs0, d0, ds0, p0, q0, hargs, rfl, rfl, h0, r0⟩ := trodAll_cons hA
  obtain ⟨v1, vs1, d1, ds1, p1, q1, rfl, rfl, rfl, h1, r1⟩ := trodAll_cons r0
  obtain ⟨rfl, rfl, rfl⟩ := trodAll_nil r1
  obtain rfl : args = #[v0, v1] := by cases args; simp_all
  obtain ⟨rfl, rfl⟩ := trodVars_none hV
  have k0 := h0
  have lt0 : ∀ x ∈ p0, x.block < W.heap.size := by obtain ⟨m, hm⟩ := k0; exact DataW.trod_lt m _ _ _ hm
  obtain ⟨fuel0, hf0⟩ := h0
  obtain ⟨x0_, hK0, hG0, hB0⟩ := (Opn.Opens.open_ (enc := enc) (w := W) (Opn.opens_string Try.underlying9 (by kernel_rfl))) fuel0 _ _ _ hf0
  have hg0 := hG0 (fun n hn => by have h := List.all_eq_true.1 hsz n (DataW.weights_mem_each (j := 0) rfl rfl n hn); exact of_decide_eq_true h)
  obtain ⟨L0, hL0⟩ : ∃ L, L = (v0 : Value).cells.toList := ⟨_, rfl⟩
  rw [← hL0] at hK0
  clear hG0 hf0
  obtain rfl := hK0
  obtain ⟨b0_, rfl⟩ := okWide_string Try.underlying9 (hval 0 9 v0 rfl rfl)
  obtain rfl : x0_ = b0_ := by simp [Value.cells] at hL0; exact hL0
  have k1 := h1
  have lt1 : ∀ x ∈ p1, x.block < W.heap.size := by obtain ⟨m, hm⟩ := k1; exact DataW.trod_lt m _ _ _ hm
  obtain ⟨fuel1, hf1⟩ := h1
  obtain ⟨x1_, hK1, hG1, hB1⟩ := (Opn.Opens.open_ (enc := enc) (w := W) (Opn.opens_string Try.underlying9 (by kernel_rfl))) fuel1 _ _ _ hf1
  have hg1 := hG1 (fun n hn => by have h := List.all_eq_true.1 hsz n (DataW.weights_mem_each (j := 1) rfl rfl n hn); exact of_decide_eq_true h)
  obtain ⟨L1, hL1⟩ : ∃ L, L = (v1 : Value).cells.toList := ⟨_, rfl⟩
  rw [← hL1] at hK1
  clear hG1 hf1
  obtain rfl := hK1
  obtain ⟨b1_, rfl⟩ := okWide_string Try.underlying9 (hval 1 9 v1 rfl rfl)
  obtain rfl : x1_ = b1_ := by simp [Value.cells] at hL1; exact hL1
  have hq0 : x0_.size ≤ 140737488351232 := by have h := hg0; exact h
  have hq1 : x1_.size ≤ 140737488351232 := by have h := hg1; exact h
  clear hA0 hval0 hsz0 hsz
  have hp := Pure.DataSame x0_ x1_ hq0 hq1
  refine (Go.Proofs.Ytiiljkinekjkbaa.copyholdlaw09_DataSame.calls x0_ x1_ true W  hp).mono ?_
  rintro e W' ⟨rfl, bel0⟩
  have bel : Below W.heap.size W W' := bel0
  exact ⟨_, rfl, _, _, _, [], _, [], hW', trodAll_mk1 (shut_bool Try.underlying4 _), (trodAll_cons_mk (Below.trod laidOut (by kernel_rfl) (of_decide_eq_true (by kernel_rfl)) k0 bel lt0) (trodAll_cons_mk (Below.trod laidOut (by kernel_rfl) (of_decide_eq_true (by kernel_rfl)) k1 bel lt1) trodAll_mk0)), rfl, bel.frame _, fun h => by cases h⟩
theorem over : Rows.dataSameRow.holds Try.pinned (OpenSpec.ofChange Rows.dataSameSpec) :=
  OpenClaim.holds_of_wide 6 Try.f6 rfl rfl rfl rfl rfl rfl rfl ⟨rfl, rfl, rfl, rfl, rfl⟩ rfl rfl rfl rfl rfl (by kernel_rfl) Try.func6 (by kernel_rfl)
    (of_decide_eq_true (by kernel_rfl)) (by unfold Func.isWrapper; first | (rw [if_pos (by decide +kernel)]; kernel_rfl) | (rw [if_neg (by decide +kernel)]; exact ⟨rfl, rfl⟩))
    (fun os started H enc _ => lifted os started H enc)
theorem proved : Rows.DataSameSaid := over
#print axioms proved
end Go.Proofs.Ytiiljkinekjkbaa.dataSameR
namespace Go.Proofs.Ytiiljkinekjkbaa
/-- The row, under a short name, for the claim. -/
theorem dataSame_holds : Rows.DataSameSaid := dataSameR.proved
end Go.Proofs.Ytiiljkinekjkbaa
