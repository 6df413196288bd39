import Derived.Test.YtgnmhbkialgeaaaRows
import Derived.Test.YtgnmhbkialgeaaaZOne25
import Derived.WalkKit
import Derived.ProofKit
import Derived.OpenShut
import Derived.ShutString
import Derived.ChangeOld
import Derived.Below
import Derived.SizedLaws
import Derived.JoinedCond
import Derived.Deep.CondSized
set_option linter.unusedVariables false
set_option linter.unusedSimpArgs false
/- The row of WireOne: where what it reads is of bulk at most 1048576, the law returns true. Its conditions: those of the given statement, and no others. -/
namespace Go.Proofs.Ytgnmhbkialgeaaa.wireOneR
open Go.ChangeShapes Go.WideShapes Go.ChangeAt Go.RowKit Go.Proofs.YtgnmhbkialgeaaaW.PrintWords
open Go.ChangeMaps (open_string shut_string)
set_option linter.unusedVariables false
set_option linter.unusedSimpArgs false
theorem own : ownKnob Try.prog.godebug = none := by kernel_rfl
theorem laidOut : laidOutB Try.prog = true := by kernel_rfl
set_option maxRecDepth 100000 in
set_option maxHeartbeats 2000000 in
theorem lifted (os : Os) (started : os.Started) (H : Type) (enc : TypeId × Value → H) (F : Stop.Interp) :
    ReturnsInHanded {} Try.checked os 7 .any ((Rows.OpenSpec.upto Rows.wireOneSpec).pre6 enc Try.prog Try.f7 Rows.wireOneUptoRow.domain false) (((Rows.OpenSpec.upto Rows.wireOneSpec).at F).post enc Try.prog Try.f7 false true false false) := by
  refine returnsInHanded_of_cond_sized (C := Try.checked) (s := (Rows.OpenSpec.upto Rows.wireOneSpec)) (k := Rows.uptoSmall) rfl own started (by kernel_rfl) Try.func7
    (OpenSpec.witness (enc := enc) (C := Try.checked) (s := (Rows.OpenSpec.upto Rows.wireOneSpec)) (k := Rows.uptoSmall) rfl false ⟨#[], #[.agg #[.int .i64 0, .int .i64 0, .int .i64 0, .int .i64 0, .int .i64 0, .int .i64 0, .int .i64 0, .int .i64 0, .int .i64 0, .int .i64 0, .int .i64 0, .string ByteArray.empty, .string ByteArray.empty, .string ByteArray.empty, .int .i64 0, .int .i64 0, .int .i64 0, .int .i64 0, .int .i64 0, .int .i64 0, .int .i64 0, .int .i64 0, .int .i64 0, .string ByteArray.empty, .slice none 0 0, .int .i64 0, .int .u8 0]], []⟩ 8 (by kernel_rfl) (by kernel_rfl) (by kernel_rfl)
      (x := ([.agg [.agg [.lit (.int .i64 0), .lit (.int .i64 0), .lit (.int .i64 0), .lit (.int .i64 0), .lit (.int .i64 0), .lit (.int .i64 0), .agg [.lit (.int .i64 0), .lit (.int .i64 0), .lit (.int .i64 0), .lit (.int .i64 0), .lit (.int .i64 0), .lit (.string []), .lit (.string []), .lit (.string [])]], .agg [.lit (.int .i64 0), .lit (.int .i64 0), .lit (.int .i64 0), .lit (.int .i64 0), .lit (.int .i64 0), .agg [.lit (.int .i64 0), .lit (.int .i64 0), .lit (.int .i64 0), .lit (.int .i64 0), .lit (.string []), .nil]], .lit (.int .i64 0), .lit (.int .u8 0)]], [], [])) (by kernel_rfl) rfl (by kernel_rfl)) ?_
  intro W base args ds gs before hval0 hW _ hk hsz0 _
  have hsz : (DataW.weightsEach Try.prog (Try.f7.params.toList ++ Rows.wireOneSpec.plain.varTypes Try.prog) (ds ++ gs)).all (· ≤ reachBytes) = true := hsz0
  have hval : ∀ (j : Nat) t v, Try.f7.params[j]? = some t → args[j]? = some v → Value.okWide Try.prog W .any base t v := hval0
  have hW' := hW
  obtain ⟨p, q, hA0, hV, rfl, hfz, hnd⟩ := hW
  have hA : DataW.TrodAll enc Try.prog W 0 (fun _ => true) true Try.f7.params.toList args.toList ds p := hA0
  rw [Try.params7] at hA hval hsz
  obtain ⟨v0, vs0, d0, ds0, p0, q0, hargs, rfl, rfl, h0, r0⟩ := trodAll_cons hA
  obtain ⟨rfl, rfl, rfl⟩ := trodAll_nil r0
  obtain rfl : args = #[v0] := by cases args; simp_all
  obtain ⟨rfl, rfl⟩ := trodVars_none hV
  have k0 := h0
  have lt0 : ∀ x ∈ p0, x.block < W.heap.size := by obtain ⟨m, hm⟩ := k0; exact DataW.trod_lt m _ _ _ hm
  obtain ⟨fuel0, hf0⟩ := h0
  obtain ⟨x0_, hK0, hG0, hB0⟩ := (Opn.Opens.open_ (enc := enc) (w := W) (Opn.opens_struct id id (fun _ => rfl) Try.underlying58 (by kernel_rfl) (Opn.opensF_cons (Opn.opens_struct id id (fun _ => rfl) Try.underlying32 (by kernel_rfl) (Opn.opensF_cons (Opn.opens_int (k := .i64) Try.underlying3 (by kernel_rfl)) rfl (Opn.opensF_cons (Opn.opens_int (k := .i64) Try.underlying3 (by kernel_rfl)) rfl (Opn.opensF_cons (Opn.opens_int (k := .i64) Try.underlying3 (by kernel_rfl)) rfl (Opn.opensF_cons (Opn.opens_int (k := .i64) Try.underlying3 (by kernel_rfl)) rfl (Opn.opensF_cons (Opn.opens_int (k := .i64) Try.underlying3 (by kernel_rfl)) rfl (Opn.opensF_cons (Opn.opens_int (k := .i64) Try.underlying3 (by kernel_rfl)) rfl (Opn.opensF_one (Opn.opens_struct id id (fun _ => rfl) Try.underlying23 (by kernel_rfl) (Opn.opensF_cons (Opn.opens_int (k := .i64) Try.underlying3 (by kernel_rfl)) rfl (Opn.opensF_cons (Opn.opens_int (k := .i64) Try.underlying3 (by kernel_rfl)) rfl (Opn.opensF_cons (Opn.opens_int (k := .i64) Try.underlying3 (by kernel_rfl)) rfl (Opn.opensF_cons (Opn.opens_int (k := .i64) Try.underlying3 (by kernel_rfl)) rfl (Opn.opensF_cons (Opn.opens_int (k := .i64) Try.underlying3 (by kernel_rfl)) rfl (Opn.opensF_cons (Opn.opens_string Try.underlying9 (by kernel_rfl)) rfl (Opn.opensF_cons (Opn.opens_string Try.underlying9 (by kernel_rfl)) rfl (Opn.opensF_one (Opn.opens_string Try.underlying9 (by kernel_rfl))))))))))))))))))) rfl (Opn.opensF_cons (Opn.opens_struct id id (fun _ => rfl) Try.underlying37 (by kernel_rfl) (Opn.opensF_cons (Opn.opens_int (k := .i64) Try.underlying3 (by kernel_rfl)) rfl (Opn.opensF_cons (Opn.opens_int (k := .i64) Try.underlying3 (by kernel_rfl)) rfl (Opn.opensF_cons (Opn.opens_int (k := .i64) Try.underlying3 (by kernel_rfl)) rfl (Opn.opensF_cons (Opn.opens_int (k := .i64) Try.underlying3 (by kernel_rfl)) rfl (Opn.opensF_cons (Opn.opens_int (k := .i64) Try.underlying3 (by kernel_rfl)) rfl (Opn.opensF_one (Opn.opens_struct id id (fun _ => rfl) Try.underlying35 (by kernel_rfl) (Opn.opensF_cons (Opn.opens_int (k := .i64) Try.underlying27 (by kernel_rfl)) rfl (Opn.opensF_cons (Opn.opens_int (k := .i64) Try.underlying3 (by kernel_rfl)) rfl (Opn.opensF_cons (Opn.opens_int (k := .i64) Try.underlying3 (by kernel_rfl)) rfl (Opn.opensF_cons (Opn.opens_int (k := .i64) Try.underlying3 (by kernel_rfl)) rfl (Opn.opensF_cons (Opn.opens_string Try.underlying9 (by kernel_rfl)) rfl (Opn.opensF_one (Opn.opens_slice Try.underlying33 (by kernel_rfl) (Opn.opens_string Try.underlying9 (by kernel_rfl))))))))))))))))) rfl (Opn.opensF_cons (Opn.opens_int (k := .i64) Try.underlying3 (by kernel_rfl)) rfl (Opn.opensF_one (Opn.opens_int (k := .u8) Try.underlying5 (by kernel_rfl)))))))) fuel0 _ _ _ hf0
  have hg0 := hG0 (fun n hn => by have h := List.all_eq_true.1 hsz n (DataW.weights_mem_each (j := 0) rfl rfl n hn); exact of_decide_eq_true h)
  obtain ⟨L0, hL0⟩ : ∃ L, L = (v0 : Value).cells.toList := ⟨_, rfl⟩
  rw [← hL0] at hK0
  clear hG0 hf0
  obtain ⟨e0_1, g0_1, rfl, he0_1, hg_0_1⟩ := hK0
  obtain ⟨e0_2, g0_2, rfl, he0_2, hg_0_2⟩ := he0_1
  obtain rfl := he0_2
  obtain ⟨e0_3, g0_3, rfl, he0_3, hg_0_3⟩ := hg_0_2
  obtain rfl := he0_3
  obtain ⟨e0_4, g0_4, rfl, he0_4, hg_0_4⟩ := hg_0_3
  obtain rfl := he0_4
  obtain ⟨e0_5, g0_5, rfl, he0_5, hg_0_5⟩ := hg_0_4
  obtain rfl := he0_5
  obtain ⟨e0_6, g0_6, rfl, he0_6, hg_0_6⟩ := hg_0_5
  obtain rfl := he0_6
  obtain ⟨e0_7, g0_7, rfl, he0_7, hg_0_7⟩ := hg_0_6
  obtain rfl := he0_7
  obtain ⟨e0_8, g0_8, rfl, he0_8, hg_0_8⟩ := hg_0_7
  obtain rfl := he0_8
  obtain ⟨e0_9, g0_9, rfl, he0_9, hg_0_9⟩ := hg_0_8
  obtain rfl := he0_9
  obtain ⟨e0_10, g0_10, rfl, he0_10, hg_0_10⟩ := hg_0_9
  obtain rfl := he0_10
  obtain ⟨e0_11, g0_11, rfl, he0_11, hg_0_11⟩ := hg_0_10
  obtain rfl := he0_11
  obtain ⟨e0_12, g0_12, rfl, he0_12, hg_0_12⟩ := hg_0_11
  obtain rfl := he0_12
  obtain ⟨e0_13, g0_13, rfl, he0_13, hg_0_13⟩ := hg_0_12
  obtain rfl := he0_13
  obtain ⟨e0_14, g0_14, rfl, he0_14, hg_0_14⟩ := hg_0_13
  obtain rfl := he0_14
  obtain rfl := hg_0_14
  obtain ⟨e0_15, g0_15, rfl, he0_15, hg_0_15⟩ := hg_0_1
  obtain ⟨e0_16, g0_16, rfl, he0_16, hg_0_16⟩ := he0_15
  obtain rfl := he0_16
  obtain ⟨e0_17, g0_17, rfl, he0_17, hg_0_17⟩ := hg_0_16
  obtain rfl := he0_17
  obtain ⟨e0_18, g0_18, rfl, he0_18, hg_0_18⟩ := hg_0_17
  obtain rfl := he0_18
  obtain ⟨e0_19, g0_19, rfl, he0_19, hg_0_19⟩ := hg_0_18
  obtain rfl := he0_19
  obtain ⟨e0_20, g0_20, rfl, he0_20, hg_0_20⟩ := hg_0_19
  obtain rfl := he0_20
  obtain ⟨e0_21, g0_21, rfl, he0_21, hg_0_21⟩ := hg_0_20
  obtain rfl := he0_21
  obtain ⟨e0_22, g0_22, rfl, he0_22, hg_0_22⟩ := hg_0_21
  obtain rfl := he0_22
  obtain ⟨e0_23, g0_23, rfl, he0_23, hg_0_23⟩ := hg_0_22
  obtain rfl := he0_23
  obtain ⟨e0_24, g0_24, rfl, he0_24, hg_0_24⟩ := hg_0_23
  obtain rfl := he0_24
  obtain ⟨e0_25, g0_25, rfl, he0_25, hg_0_25⟩ := hg_0_24
  obtain rfl := he0_25
  obtain ⟨A0_24, c0_24, rfl, hc0_24, hr0_24⟩ := hg_0_25
  obtain ⟨e0_26, g0_26, rfl, he0_26, hg_0_26⟩ := hg_0_15
  obtain rfl := he0_26
  obtain rfl := hg_0_26
  obtain ⟨cs0, rfl, _⟩ := okWide_struct Try.underlying58 (hval 0 58 v0 rfl rfl)
  obtain rfl : cs0 = #[.int .i64 x0_.1.1, .int .i64 x0_.1.2.1, .int .i64 x0_.1.2.2.1, .int .i64 x0_.1.2.2.2.1, .int .i64 x0_.1.2.2.2.2.1, .int .i64 x0_.1.2.2.2.2.2.1, .int .i64 x0_.1.2.2.2.2.2.2.1, .int .i64 x0_.1.2.2.2.2.2.2.2.1, .int .i64 x0_.1.2.2.2.2.2.2.2.2.1, .int .i64 x0_.1.2.2.2.2.2.2.2.2.2.1, .int .i64 x0_.1.2.2.2.2.2.2.2.2.2.2.1, .string x0_.1.2.2.2.2.2.2.2.2.2.2.2.1, .string x0_.1.2.2.2.2.2.2.2.2.2.2.2.2.1, .string x0_.1.2.2.2.2.2.2.2.2.2.2.2.2.2, .int .i64 x0_.2.1.1, .int .i64 x0_.2.1.2.1, .int .i64 x0_.2.1.2.2.1, .int .i64 x0_.2.1.2.2.2.1, .int .i64 x0_.2.1.2.2.2.2.1, .int .i64 x0_.2.1.2.2.2.2.2.1, .int .i64 x0_.2.1.2.2.2.2.2.2.1, .int .i64 x0_.2.1.2.2.2.2.2.2.2.1, .int .i64 x0_.2.1.2.2.2.2.2.2.2.2.1, .string x0_.2.1.2.2.2.2.2.2.2.2.2.1, .slice A0_24 x0_.2.1.2.2.2.2.2.2.2.2.2.2.length c0_24, .int .i64 x0_.2.2.1, .int .u8 x0_.2.2.2] := by
    have h : [.int .i64 x0_.1.1, .int .i64 x0_.1.2.1, .int .i64 x0_.1.2.2.1, .int .i64 x0_.1.2.2.2.1, .int .i64 x0_.1.2.2.2.2.1, .int .i64 x0_.1.2.2.2.2.2.1, .int .i64 x0_.1.2.2.2.2.2.2.1, .int .i64 x0_.1.2.2.2.2.2.2.2.1, .int .i64 x0_.1.2.2.2.2.2.2.2.2.1, .int .i64 x0_.1.2.2.2.2.2.2.2.2.2.1, .int .i64 x0_.1.2.2.2.2.2.2.2.2.2.2.1, .string x0_.1.2.2.2.2.2.2.2.2.2.2.2.1, .string x0_.1.2.2.2.2.2.2.2.2.2.2.2.2.1, .string x0_.1.2.2.2.2.2.2.2.2.2.2.2.2.2, .int .i64 x0_.2.1.1, .int .i64 x0_.2.1.2.1, .int .i64 x0_.2.1.2.2.1, .int .i64 x0_.2.1.2.2.2.1, .int .i64 x0_.2.1.2.2.2.2.1, .int .i64 x0_.2.1.2.2.2.2.2.1, .int .i64 x0_.2.1.2.2.2.2.2.2.1, .int .i64 x0_.2.1.2.2.2.2.2.2.2.1, .int .i64 x0_.2.1.2.2.2.2.2.2.2.2.1, .string x0_.2.1.2.2.2.2.2.2.2.2.2.1, .slice A0_24 x0_.2.1.2.2.2.2.2.2.2.2.2.2.length c0_24, .int .i64 x0_.2.2.1, .int .u8 x0_.2.2.2] = cs0.toList := by first | exact hL0 | (simpa [Value.cells] using hL0)
    cases cs0; simp at h; rw [← h]
  have hby9 : Try.prog.bytesOf 9 = 16 := by kernel_rfl
  have hq0 : (((Lit.int .i64 x0_.1.1).wf = true ∧ (Lit.int .i64 x0_.1.2.1).wf = true ∧ (Lit.int .i64 x0_.1.2.2.1).wf = true ∧ (Lit.int .i64 x0_.1.2.2.2.1).wf = true ∧ (Lit.int .i64 x0_.1.2.2.2.2.1).wf = true ∧ (Lit.int .i64 x0_.1.2.2.2.2.2.1).wf = true ∧ ((Lit.int .i64 x0_.1.2.2.2.2.2.2.1).wf = true ∧ (Lit.int .i64 x0_.1.2.2.2.2.2.2.2.1).wf = true ∧ (Lit.int .i64 x0_.1.2.2.2.2.2.2.2.2.1).wf = true ∧ (Lit.int .i64 x0_.1.2.2.2.2.2.2.2.2.2.1).wf = true ∧ (Lit.int .i64 x0_.1.2.2.2.2.2.2.2.2.2.2.1).wf = true ∧ x0_.1.2.2.2.2.2.2.2.2.2.2.2.1.size ≤ 140737488351232 ∧ x0_.1.2.2.2.2.2.2.2.2.2.2.2.2.1.size ≤ 140737488351232 ∧ x0_.1.2.2.2.2.2.2.2.2.2.2.2.2.2.size ≤ 140737488351232)) ∧ ((Lit.int .i64 x0_.2.1.1).wf = true ∧ (Lit.int .i64 x0_.2.1.2.1).wf = true ∧ (Lit.int .i64 x0_.2.1.2.2.1).wf = true ∧ (Lit.int .i64 x0_.2.1.2.2.2.1).wf = true ∧ (Lit.int .i64 x0_.2.1.2.2.2.2.1).wf = true ∧ ((Lit.int .i64 x0_.2.1.2.2.2.2.2.1).wf = true ∧ (Lit.int .i64 x0_.2.1.2.2.2.2.2.2.1).wf = true ∧ (Lit.int .i64 x0_.2.1.2.2.2.2.2.2.2.1).wf = true ∧ (Lit.int .i64 x0_.2.1.2.2.2.2.2.2.2.2.1).wf = true ∧ x0_.2.1.2.2.2.2.2.2.2.2.2.1.size ≤ 140737488351232 ∧ (x0_.2.1.2.2.2.2.2.2.2.2.2.2.length * 16 ≤ 140737488351232 ∧ ∀ y_ ∈ x0_.2.1.2.2.2.2.2.2.2.2.2.2, y_.size ≤ 140737488351232))) ∧ (Lit.int .i64 x0_.2.2.1).wf = true ∧ (Lit.int .u8 x0_.2.2.2).wf = true) := by have h := hg0; simp only [hby9] at h; exact h
  have hbound : Rows.uptoBulkAll ([d0] : List (DataW H)) ≤ 1048576 := by have h := of_decide_eq_true hk; simpa using h
  simp only [Rows.uptoBulkAll] at hbound
  have hbb0 : ((((1 + (1 + (1 + (1 + (1 + (1 + ((1 + (1 + (1 + (1 + (1 + ((x0_.1.2.2.2.2.2.2.2.2.2.2.2.1.size + 1) + ((x0_.1.2.2.2.2.2.2.2.2.2.2.2.2.1.size + 1) + (x0_.1.2.2.2.2.2.2.2.2.2.2.2.2.2.size + 1)))))))) + 1))))))) + 1) + (((1 + (1 + (1 + (1 + (1 + ((1 + (1 + (1 + (1 + ((x0_.2.1.2.2.2.2.2.2.2.2.2.1.size + 1) + ((x0_.2.1.2.2.2.2.2.2.2.2.2.2.map fun y_ => (y_.size + 1)).sum + 1)))))) + 1)))))) + 1) + (1 + 1))) + 1) ≤ Rows.uptoBulk d0 := hB0
  clear hA0 hval0 hsz0 hsz
  have hp := Pure.WireOne x0_.1.1 x0_.1.2.1 x0_.1.2.2.1 x0_.1.2.2.2.1 x0_.1.2.2.2.2.1 x0_.1.2.2.2.2.2.1 x0_.1.2.2.2.2.2.2.1 x0_.1.2.2.2.2.2.2.2.1 x0_.1.2.2.2.2.2.2.2.2.1 x0_.1.2.2.2.2.2.2.2.2.2.1 x0_.1.2.2.2.2.2.2.2.2.2.2.1 x0_.1.2.2.2.2.2.2.2.2.2.2.2.1 x0_.1.2.2.2.2.2.2.2.2.2.2.2.2.1 x0_.1.2.2.2.2.2.2.2.2.2.2.2.2.2 x0_.2.1.1 x0_.2.1.2.1 x0_.2.1.2.2.1 x0_.2.1.2.2.2.1 x0_.2.1.2.2.2.2.1 x0_.2.1.2.2.2.2.2.1 x0_.2.1.2.2.2.2.2.2.1 x0_.2.1.2.2.2.2.2.2.2.1 x0_.2.1.2.2.2.2.2.2.2.2.1 x0_.2.1.2.2.2.2.2.2.2.2.2.1 x0_.2.1.2.2.2.2.2.2.2.2.2.2 x0_.2.2.1 x0_.2.2.2 hq0.1.1 hq0.1.2.1 hq0.1.2.2.1 hq0.1.2.2.2.1 hq0.1.2.2.2.2.1 hq0.1.2.2.2.2.2.1 hq0.1.2.2.2.2.2.2.1 hq0.1.2.2.2.2.2.2.2.1 hq0.1.2.2.2.2.2.2.2.2.1 hq0.1.2.2.2.2.2.2.2.2.2.1 hq0.1.2.2.2.2.2.2.2.2.2.2.1 hq0.1.2.2.2.2.2.2.2.2.2.2.2.1 hq0.1.2.2.2.2.2.2.2.2.2.2.2.2.1 hq0.1.2.2.2.2.2.2.2.2.2.2.2.2.2 hq0.2.1.1 hq0.2.1.2.1 hq0.2.1.2.2.1 hq0.2.1.2.2.2.1 hq0.2.1.2.2.2.2.1 hq0.2.1.2.2.2.2.2.1 hq0.2.1.2.2.2.2.2.2.1 hq0.2.1.2.2.2.2.2.2.2.1 hq0.2.1.2.2.2.2.2.2.2.2.1 hq0.2.1.2.2.2.2.2.2.2.2.2.1 hq0.2.1.2.2.2.2.2.2.2.2.2.2 hq0.2.2.1 hq0.2.2.2 (by first | exact Nat.le_trans hbb0 hbound | exact Nat.le_trans hbb0 (Nat.le_trans (Nat.le_add_right _ _) hbound))
  refine (Go.Proofs.Ytgnmhbkialgeaaa.copyholdlaw15_WireOne.calls x0_.1.1 x0_.1.2.1 x0_.1.2.2.1 x0_.1.2.2.2.1 x0_.1.2.2.2.2.1 x0_.1.2.2.2.2.2.1 x0_.1.2.2.2.2.2.2.1 x0_.1.2.2.2.2.2.2.2.1 x0_.1.2.2.2.2.2.2.2.2.1 x0_.1.2.2.2.2.2.2.2.2.2.1 x0_.1.2.2.2.2.2.2.2.2.2.2.1 x0_.1.2.2.2.2.2.2.2.2.2.2.2.1 x0_.1.2.2.2.2.2.2.2.2.2.2.2.2.1 x0_.1.2.2.2.2.2.2.2.2.2.2.2.2.2 x0_.2.1.1 x0_.2.1.2.1 x0_.2.1.2.2.1 x0_.2.1.2.2.2.1 x0_.2.1.2.2.2.2.1 x0_.2.1.2.2.2.2.2.1 x0_.2.1.2.2.2.2.2.2.1 x0_.2.1.2.2.2.2.2.2.2.1 x0_.2.1.2.2.2.2.2.2.2.2.1 x0_.2.1.2.2.2.2.2.2.2.2.2.1 A0_24 c0_24 x0_.2.1.2.2.2.2.2.2.2.2.2.2 x0_.2.2.1 x0_.2.2.2 true W hr0_24 hc0_24 hp).mono ?_
  rintro e W' ⟨rfl, bel0⟩
  have bel : Below W.heap.size W W' := bel0
  exact ⟨_, rfl, _, _, _, [], _, [], hW', trodAll_mk1 (shut_bool Try.underlying4 _), (trodAll_cons_mk (Below.trod laidOut (by kernel_rfl) (of_decide_eq_true (by kernel_rfl)) k0 bel lt0) trodAll_mk0), rfl, bel.frame _, fun h => by cases h⟩
theorem over : Rows.wireOneUptoRow.holds Try.pinned ((Rows.OpenSpec.upto Rows.wireOneSpec)) :=
  OpenClaim.holds_of_cond 7 Try.f7 rfl rfl rfl rfl rfl rfl rfl ⟨rfl, rfl, rfl, rfl, rfl⟩ rfl rfl rfl rfl rfl (by kernel_rfl) Try.func7 (by kernel_rfl)
    (of_decide_eq_true (by kernel_rfl)) (by unfold Func.isWrapper; first | (rw [if_pos (by decide +kernel)]; kernel_rfl) | (rw [if_neg (by decide +kernel)]; exact ⟨rfl, rfl⟩))
    (fun os started H enc _ F => lifted os started H enc F)
theorem proved : Rows.WireOneUptoSaid := over
#print axioms proved
end Go.Proofs.Ytgnmhbkialgeaaa.wireOneR
namespace Go.Proofs.Ytgnmhbkialgeaaa
/-- The row, under a short name, for the claim. -/
theorem wireOne_holds : Rows.WireOneUptoSaid := wireOneR.proved
end Go.Proofs.Ytgnmhbkialgeaaa
