import Derived.Test.YtcbfnfggnocndaaRows
import Derived.Test.YtcbfnfggnocndaaZRedoRecords24
import Derived.Test.YtcbfnfggnocndaaZRedoRecords25
import Derived.WalkKit
import Derived.ProofKit
import Derived.OpenShut
import Derived.ShutString
import Derived.ChangeOld
import Derived.Below
import Derived.SizedLaws
/- The row of RedoRecords: whatever it is given, the law returns true. Its conditions: those of the given statement, and no others. -/
namespace Go.Proofs.Ytcbfnfggnocndaa.redoRecordsR
open Go.ChangeShapes Go.WideShapes Go.ChangeAt Go.RowKit Go.Proofs.YtcbfnfggnocndaaW.PrintWords
open Go.ChangeMaps (open_string shut_string)
set_option linter.unusedVariables false
set_option linter.unusedSimpArgs false
theorem own : ownKnob Try.prog.godebug = none := by kernel_rfl
theorem laidOut : laidOutB Try.prog = true := by kernel_rfl
set_option maxRecDepth 100000 in
set_option maxHeartbeats 2000000 in
theorem lifted (os : Os) (started : os.Started) (H : Type) (enc : TypeId × Value → H) :
    ReturnsInHanded {} Try.checked os 4 .any (Rows.redoRecordsSpec.pre6 enc Try.prog Try.f4 Rows.redoRecordsRow.domain false) (Rows.redoRecordsSpec.post enc Try.prog Try.f4 false true false false) := by
  refine returnsInHanded_of_change_sized (C := Try.checked) own started (by kernel_rfl) Try.func4
    (ChangeSpec.witness6 (enc := enc) (C := Try.checked) false ⟨#[], #[.agg #[.int .u64 0, .int .u64 0, .string ByteArray.empty, .string ByteArray.empty]], []⟩ 8 (by kernel_rfl) (by kernel_rfl) (by kernel_rfl) (by kernel_rfl)) ?_
  intro W base args ds gs before hval0 hW hcnd hsz0 _
  have hsz : (DataW.weightsEach Try.prog (Try.f4.params.toList ++ Rows.redoRecordsSpec.plain.varTypes Try.prog) (ds ++ gs)).all (· ≤ reachBytes) = true := hsz0
  have hval : ∀ (j : Nat) t v, Try.f4.params[j]? = some t → args[j]? = some v → Value.okWide Try.prog W .any base t v := hval0
  have hW' := hW
  obtain ⟨p, q, hA0, hV, rfl, hfz, hnd⟩ := hW
  have hA : DataW.TrodAll enc Try.prog W 0 (fun _ => true) true Try.f4.params.toList args.toList ds p := hA0
  rw [Try.params4] at hA hval hsz
  obtain ⟨v0, vs0, d0, ds0, p0, q0, hargs, rfl, rfl, h0, r0⟩ := trodAll_cons hA
  obtain ⟨rfl, rfl, rfl⟩ := trodAll_nil r0
  obtain rfl : args = #[v0] := by cases args; simp_all
  obtain ⟨rfl, rfl⟩ := trodVars_none hV
  have k0 := h0
  have lt0 : ∀ x ∈ p0, x.block < W.heap.size := by obtain ⟨m, hm⟩ := k0; exact DataW.trod_lt m _ _ _ hm
  obtain ⟨fuel0, hf0⟩ := h0
  obtain ⟨x0_, hK0, hG0, hB0⟩ := (Opn.Opens.open_ (enc := enc) (w := W) (Opn.opens_struct id id (fun _ => rfl) Try.underlying42 (by kernel_rfl) (Opn.opensF_cons (Opn.opens_int (k := .u64) Try.underlying28 (by kernel_rfl)) rfl (Opn.opensF_cons (Opn.opens_int (k := .u64) Try.underlying28 (by kernel_rfl)) rfl (Opn.opensF_cons (Opn.opens_string Try.underlying9 (by kernel_rfl)) rfl (Opn.opensF_one (Opn.opens_string Try.underlying9 (by kernel_rfl)))))))) fuel0 _ _ _ hf0
  have hg0 := hG0 (fun n hn => by have h := List.all_eq_true.1 hsz n (DataW.weights_mem_each (j := 0) rfl rfl n hn); exact of_decide_eq_true h)
  obtain ⟨L0, hL0⟩ : ∃ L, L = (v0 : Value).cells.toList := ⟨_, rfl⟩
  rw [← hL0] at hK0
  clear hG0 hf0
  obtain ⟨e0_1, g0_1, rfl, he0_1, hg_0_1⟩ := hK0
  obtain rfl := he0_1
  obtain ⟨e0_2, g0_2, rfl, he0_2, hg_0_2⟩ := hg_0_1
  obtain rfl := he0_2
  obtain ⟨e0_3, g0_3, rfl, he0_3, hg_0_3⟩ := hg_0_2
  obtain rfl := he0_3
  obtain rfl := hg_0_3
  obtain ⟨cs0, rfl, _⟩ := okWide_struct Try.underlying42 (hval 0 42 v0 rfl rfl)
  obtain rfl : cs0 = #[.int .u64 x0_.1, .int .u64 x0_.2.1, .string x0_.2.2.1, .string x0_.2.2.2] := by
    have h : [.int .u64 x0_.1, .int .u64 x0_.2.1, .string x0_.2.2.1, .string x0_.2.2.2] = cs0.toList := by first | exact hL0 | (simpa [Value.cells] using hL0)
    cases cs0; simp at h; rw [← h]
  have hq0 : ((Lit.int .u64 x0_.1).wf = true ∧ (Lit.int .u64 x0_.2.1).wf = true ∧ x0_.2.2.1.size ≤ 140737488351232 ∧ x0_.2.2.2.size ≤ 140737488351232) := by have h := hg0; exact h
  clear hA0 hval0 hsz0 hsz
  obtain ⟨k, hp⟩ := Pure.RedoRecords x0_.1 x0_.2.1 x0_.2.2.1 x0_.2.2.2 hq0.1 hq0.2.1 hq0.2.2.1 hq0.2.2.2
  refine (Go.Proofs.Ytcbfnfggnocndaa.Q.copyholdlaw05_RedoRecords.calls k x0_.1 x0_.2.1 x0_.2.2.1 x0_.2.2.2 true W  hp).mono ?_
  rintro e W' ⟨rfl, bel0⟩
  have bel : Below W.heap.size W W' := bel0
  exact ⟨_, rfl, _, _, _, [], _, [], hW', trodAll_mk1 (shut_bool Try.underlying4 _), (trodAll_cons_mk (Below.trod laidOut (by kernel_rfl) (of_decide_eq_true (by kernel_rfl)) k0 bel lt0) trodAll_mk0), rfl, bel.frame _, fun h => by cases h⟩
theorem over : Rows.redoRecordsRow.holds Try.pinned (OpenSpec.ofChange Rows.redoRecordsSpec) :=
  OpenClaim.holds_of_wide 4 Try.f4 rfl rfl rfl rfl rfl rfl rfl ⟨rfl, rfl, rfl, rfl, rfl⟩ rfl rfl rfl rfl rfl (by kernel_rfl) Try.func4 (by kernel_rfl)
    (of_decide_eq_true (by kernel_rfl)) (by unfold Func.isWrapper; first | (rw [if_pos (by decide +kernel)]; kernel_rfl) | (rw [if_neg (by decide +kernel)]; exact ⟨rfl, rfl⟩))
    (fun os started H enc _ => lifted os started H enc)
theorem proved : Rows.RedoRecordsSaid := over
#print axioms proved
end Go.Proofs.Ytcbfnfggnocndaa.redoRecordsR
namespace Go.Proofs.Ytcbfnfggnocndaa
/-- The row, under a short name, for the claim. -/
theorem redoRecords_holds : Rows.RedoRecordsSaid := redoRecordsR.proved
end Go.Proofs.Ytcbfnfggnocndaa
