import Derived.Test.YtgnmhbkialgeaaaRows
import Derived.Test.YtgnmhbkialgeaaaZWireApart26x1
import Derived.Test.YtgnmhbkialgeaaaZWireApart27
import Derived.WalkKit
import Derived.ProofKit
import Derived.OpenShut
import Derived.ShutString
import Derived.ChangeOld
import Derived.Below
import Derived.SizedLaws
/- The row of WireApart: whatever it is given, the law returns true. Its conditions: those of the given statement, and no others. -/
namespace Go.Proofs.Ytgnmhbkialgeaaa.wireApartR
open Go.ChangeShapes Go.WideShapes Go.ChangeAt Go.RowKit Go.Proofs.YtgnmhbkialgeaaaW.PrintWords
open Go.ChangeMaps (open_string shut_string)
set_option linter.unusedVariables false
set_option linter.unusedSimpArgs false
theorem own : ownKnob Try.prog.godebug = none := by kernel_rfl
theorem laidOut : laidOutB Try.prog = true := by kernel_rfl
set_option maxRecDepth 100000 in
set_option maxHeartbeats 2000000 in
theorem lifted (os : Os) (started : os.Started) (H : Type) (enc : TypeId × Value → H) :
    ReturnsInHanded {} Try.checked os 4 .any (Rows.wireApartSpec.pre6 enc Try.prog Try.f4 Rows.wireApartRow.domain false) (Rows.wireApartSpec.post enc Try.prog Try.f4 false true false false) := by
  refine returnsInHanded_of_change_sized (C := Try.checked) own started (by kernel_rfl) Try.func4
    (ChangeSpec.witness6 (enc := enc) (C := Try.checked) false ⟨#[], #[.agg #[.int .i64 0, .int .i64 0, .int .i64 0, .int .i64 0, .int .i64 0, .int .i64 0, .int .i64 0, .int .i64 0, .int .i64 0, .int .i64 0, .int .i64 0, .string ByteArray.empty, .string ByteArray.empty, .string ByteArray.empty, .int .i64 0, .int .i64 0, .int .i64 0, .int .i64 0, .int .i64 0, .int .i64 0, .int .i64 0, .int .i64 0, .int .i64 0, .int .i64 0, .int .i64 0, .string ByteArray.empty, .string ByteArray.empty, .string ByteArray.empty, .int .i64 0, .int .i64 0, .int .i64 0, .int .i64 0, .int .i64 0, .int .i64 0, .int .i64 0, .int .i64 0, .int .i64 0, .string ByteArray.empty, .slice none 0 0, .int .i64 0, .int .i64 0, .int .i64 0, .int .i64 0, .int .i64 0, .int .i64 0, .int .i64 0, .int .i64 0, .int .i64 0, .string ByteArray.empty, .slice none 0 0]], []⟩ 8 (by kernel_rfl) (by kernel_rfl) (by kernel_rfl) (by kernel_rfl)) ?_
  intro W base args ds gs before hval0 hW hcnd hsz0 _
  have hsz : (DataW.weightsEach Try.prog (Try.f4.params.toList ++ Rows.wireApartSpec.plain.varTypes Try.prog) (ds ++ gs)).all (· ≤ reachBytes) = true := hsz0
  have hval : ∀ (j : Nat) t v, Try.f4.params[j]? = some t → args[j]? = some v → Value.okWide Try.prog W .any base t v := hval0
  have hW' := hW
  obtain ⟨p, q, hA0, hV, rfl, hfz, hnd⟩ := hW
  have hA : DataW.TrodAll enc Try.prog W 0 (fun _ => true) true Try.f4.params.toList args.toList ds p := hA0
  rw [Try.params4] at hA hval hsz
  obtain ⟨v0, vs0, d0, ds0, p0, q0, hargs, rfl, rfl, h0, r0⟩ := trodAll_cons hA
  obtain ⟨rfl, rfl, rfl⟩ := trodAll_nil r0
  obtain rfl : args = #[v0] := by cases args; simp_all
  obtain ⟨rfl, rfl⟩ := trodVars_none hV
  have k0 := h0
  have lt0 : ∀ x ∈ p0, x.block < W.heap.size := by obtain ⟨m, hm⟩ := k0; exact DataW.trod_lt m _ _ _ hm
  obtain ⟨fuel0, hf0⟩ := h0
  obtain ⟨x0_, hK0, hG0, hB0⟩ := (Opn.Opens.open_ (enc := enc) (w := W) (Opn.opens_struct id id (fun _ => rfl) Try.underlying39 (by kernel_rfl) (Opn.opensF_cons (Opn.opens_struct id id (fun _ => rfl) Try.underlying32 (by kernel_rfl) (Opn.opensF_cons (Opn.opens_int (k := .i64) Try.underlying3 (by kernel_rfl)) rfl (Opn.opensF_cons (Opn.opens_int (k := .i64) Try.underlying3 (by kernel_rfl)) rfl (Opn.opensF_cons (Opn.opens_int (k := .i64) Try.underlying3 (by kernel_rfl)) rfl (Opn.opensF_cons (Opn.opens_int (k := .i64) Try.underlying3 (by kernel_rfl)) rfl (Opn.opensF_cons (Opn.opens_int (k := .i64) Try.underlying3 (by kernel_rfl)) rfl (Opn.opensF_cons (Opn.opens_int (k := .i64) Try.underlying3 (by kernel_rfl)) rfl (Opn.opensF_one (Opn.opens_struct id id (fun _ => rfl) Try.underlying23 (by kernel_rfl) (Opn.opensF_cons (Opn.opens_int (k := .i64) Try.underlying3 (by kernel_rfl)) rfl (Opn.opensF_cons (Opn.opens_int (k := .i64) Try.underlying3 (by kernel_rfl)) rfl (Opn.opensF_cons (Opn.opens_int (k := .i64) Try.underlying3 (by kernel_rfl)) rfl (Opn.opensF_cons (Opn.opens_int (k := .i64) Try.underlying3 (by kernel_rfl)) rfl (Opn.opensF_cons (Opn.opens_int (k := .i64) Try.underlying3 (by kernel_rfl)) rfl (Opn.opensF_cons (Opn.opens_string Try.underlying9 (by kernel_rfl)) rfl (Opn.opensF_cons (Opn.opens_string Try.underlying9 (by kernel_rfl)) rfl (Opn.opensF_one (Opn.opens_string Try.underlying9 (by kernel_rfl))))))))))))))))))) rfl (Opn.opensF_cons (Opn.opens_struct id id (fun _ => rfl) Try.underlying32 (by kernel_rfl) (Opn.opensF_cons (Opn.opens_int (k := .i64) Try.underlying3 (by kernel_rfl)) rfl (Opn.opensF_cons (Opn.opens_int (k := .i64) Try.underlying3 (by kernel_rfl)) rfl (Opn.opensF_cons (Opn.opens_int (k := .i64) Try.underlying3 (by kernel_rfl)) rfl (Opn.opensF_cons (Opn.opens_int (k := .i64) Try.underlying3 (by kernel_rfl)) rfl (Opn.opensF_cons (Opn.opens_int (k := .i64) Try.underlying3 (by kernel_rfl)) rfl (Opn.opensF_cons (Opn.opens_int (k := .i64) Try.underlying3 (by kernel_rfl)) rfl (Opn.opensF_one (Opn.opens_struct id id (fun _ => rfl) Try.underlying23 (by kernel_rfl) (Opn.opensF_cons (Opn.opens_int (k := .i64) Try.underlying3 (by kernel_rfl)) rfl (Opn.opensF_cons (Opn.opens_int (k := .i64) Try.underlying3 (by kernel_rfl)) rfl (Opn.opensF_cons (Opn.opens_int (k := .i64) Try.underlying3 (by kernel_rfl)) rfl (Opn.opensF_cons (Opn.opens_int (k := .i64) Try.underlying3 (by kernel_rfl)) rfl (Opn.opensF_cons (Opn.opens_int (k := .i64) Try.underlying3 (by kernel_rfl)) rfl (Opn.opensF_cons (Opn.opens_string Try.underlying9 (by kernel_rfl)) rfl (Opn.opensF_cons (Opn.opens_string Try.underlying9 (by kernel_rfl)) rfl (Opn.opensF_one (Opn.opens_string Try.underlying9 (by kernel_rfl))))))))))))))))))) rfl (Opn.opensF_cons (Opn.opens_struct id id (fun _ => rfl) Try.underlying37 (by kernel_rfl) (Opn.opensF_cons (Opn.opens_int (k := .i64) Try.underlying3 (by kernel_rfl)) rfl (Opn.opensF_cons (Opn.opens_int (k := .i64) Try.underlying3 (by kernel_rfl)) rfl (Opn.opensF_cons (Opn.opens_int (k := .i64) Try.underlying3 (by kernel_rfl)) rfl (Opn.opensF_cons (Opn.opens_int (k := .i64) Try.underlying3 (by kernel_rfl)) rfl (Opn.opensF_cons (Opn.opens_int (k := .i64) Try.underlying3 (by kernel_rfl)) rfl (Opn.opensF_one (Opn.opens_struct id id (fun _ => rfl) Try.underlying35 (by kernel_rfl) (Opn.opensF_cons (Opn.opens_int (k := .i64) Try.underlying27 (by kernel_rfl)) rfl (Opn.opensF_cons (Opn.opens_int (k := .i64) Try.underlying3 (by kernel_rfl)) rfl (Opn.opensF_cons (Opn.opens_int (k := .i64) Try.underlying3 (by kernel_rfl)) rfl (Opn.opensF_cons (Opn.opens_int (k := .i64) Try.underlying3 (by kernel_rfl)) rfl (Opn.opensF_cons (Opn.opens_string Try.underlying9 (by kernel_rfl)) rfl (Opn.opensF_one (Opn.opens_slice Try.underlying33 (by kernel_rfl) (Opn.opens_string Try.underlying9 (by kernel_rfl))))))))))))))))) rfl (Opn.opensF_one (Opn.opens_struct id id (fun _ => rfl) Try.underlying37 (by kernel_rfl) (Opn.opensF_cons (Opn.opens_int (k := .i64) Try.underlying3 (by kernel_rfl)) rfl (Opn.opensF_cons (Opn.opens_int (k := .i64) Try.underlying3 (by kernel_rfl)) rfl (Opn.opensF_cons (Opn.opens_int (k := .i64) Try.underlying3 (by kernel_rfl)) rfl (Opn.opensF_cons (Opn.opens_int (k := .i64) Try.underlying3 (by kernel_rfl)) rfl (Opn.opensF_cons (Opn.opens_int (k := .i64) Try.underlying3 (by kernel_rfl)) rfl (Opn.opensF_one (Opn.opens_struct id id (fun _ => rfl) Try.underlying35 (by kernel_rfl) (Opn.opensF_cons (Opn.opens_int (k := .i64) Try.underlying27 (by kernel_rfl)) rfl (Opn.opensF_cons (Opn.opens_int (k := .i64) Try.underlying3 (by kernel_rfl)) rfl (Opn.opensF_cons (Opn.opens_int (k := .i64) Try.underlying3 (by kernel_rfl)) rfl (Opn.opensF_cons (Opn.opens_int (k := .i64) Try.underlying3 (by kernel_rfl)) rfl (Opn.opensF_cons (Opn.opens_string Try.underlying9 (by kernel_rfl)) rfl (Opn.opensF_one (Opn.opens_slice Try.underlying33 (by kernel_rfl) (Opn.opens_string Try.underlying9 (by kernel_rfl))))))))))))))))))))))) fuel0 _ _ _ hf0
  have hg0 := hG0 (fun n hn => by have h := List.all_eq_true.1 hsz n (DataW.weights_mem_each (j := 0) rfl rfl n hn); exact of_decide_eq_true h)
  obtain ⟨L0, hL0⟩ : ∃ L, L = (v0 : Value).cells.toList := ⟨_, rfl⟩
  rw [← hL0] at hK0
  clear hG0 hf0
  obtain ⟨e0_1, g0_1, rfl, he0_1, hg_0_1⟩ := hK0
  obtain ⟨e0_2, g0_2, rfl, he0_2, hg_0_2⟩ := he0_1
  obtain rfl := he0_2
  obtain ⟨e0_3, g0_3, rfl, he0_3, hg_0_3⟩ := hg_0_2
  obtain rfl := he0_3
  obtain ⟨e0_4, g0_4, rfl, he0_4, hg_0_4⟩ := hg_0_3
  obtain rfl := he0_4
  obtain ⟨e0_5, g0_5, rfl, he0_5, hg_0_5⟩ := hg_0_4
  obtain rfl := he0_5
  obtain ⟨e0_6, g0_6, rfl, he0_6, hg_0_6⟩ := hg_0_5
  obtain rfl := he0_6
  obtain ⟨e0_7, g0_7, rfl, he0_7, hg_0_7⟩ := hg_0_6
  obtain rfl := he0_7
  obtain ⟨e0_8, g0_8, rfl, he0_8, hg_0_8⟩ := hg_0_7
  obtain rfl := he0_8
  obtain ⟨e0_9, g0_9, rfl, he0_9, hg_0_9⟩ := hg_0_8
  obtain rfl := he0_9
  obtain ⟨e0_10, g0_10, rfl, he0_10, hg_0_10⟩ := hg_0_9
  obtain rfl := he0_10
  obtain ⟨e0_11, g0_11, rfl, he0_11, hg_0_11⟩ := hg_0_10
  obtain rfl := he0_11
  obtain ⟨e0_12, g0_12, rfl, he0_12, hg_0_12⟩ := hg_0_11
  obtain rfl := he0_12
  obtain ⟨e0_13, g0_13, rfl, he0_13, hg_0_13⟩ := hg_0_12
  obtain rfl := he0_13
  obtain ⟨e0_14, g0_14, rfl, he0_14, hg_0_14⟩ := hg_0_13
  obtain rfl := he0_14
  obtain rfl := hg_0_14
  obtain ⟨e0_15, g0_15, rfl, he0_15, hg_0_15⟩ := hg_0_1
  obtain ⟨e0_16, g0_16, rfl, he0_16, hg_0_16⟩ := he0_15
  obtain rfl := he0_16
  obtain ⟨e0_17, g0_17, rfl, he0_17, hg_0_17⟩ := hg_0_16
  obtain rfl := he0_17
  obtain ⟨e0_18, g0_18, rfl, he0_18, hg_0_18⟩ := hg_0_17
  obtain rfl := he0_18
  obtain ⟨e0_19, g0_19, rfl, he0_19, hg_0_19⟩ := hg_0_18
  obtain rfl := he0_19
  obtain ⟨e0_20, g0_20, rfl, he0_20, hg_0_20⟩ := hg_0_19
  obtain rfl := he0_20
  obtain ⟨e0_21, g0_21, rfl, he0_21, hg_0_21⟩ := hg_0_20
  obtain rfl := he0_21
  obtain ⟨e0_22, g0_22, rfl, he0_22, hg_0_22⟩ := hg_0_21
  obtain rfl := he0_22
  obtain ⟨e0_23, g0_23, rfl, he0_23, hg_0_23⟩ := hg_0_22
  obtain rfl := he0_23
  obtain ⟨e0_24, g0_24, rfl, he0_24, hg_0_24⟩ := hg_0_23
  obtain rfl := he0_24
  obtain ⟨e0_25, g0_25, rfl, he0_25, hg_0_25⟩ := hg_0_24
  obtain rfl := he0_25
  obtain ⟨e0_26, g0_26, rfl, he0_26, hg_0_26⟩ := hg_0_25
  obtain rfl := he0_26
  obtain ⟨e0_27, g0_27, rfl, he0_27, hg_0_27⟩ := hg_0_26
  obtain rfl := he0_27
  obtain ⟨e0_28, g0_28, rfl, he0_28, hg_0_28⟩ := hg_0_27
  obtain rfl := he0_28
  obtain rfl := hg_0_28
  obtain ⟨e0_29, g0_29, rfl, he0_29, hg_0_29⟩ := hg_0_15
  obtain ⟨e0_30, g0_30, rfl, he0_30, hg_0_30⟩ := he0_29
  obtain rfl := he0_30
  obtain ⟨e0_31, g0_31, rfl, he0_31, hg_0_31⟩ := hg_0_30
  obtain rfl := he0_31
  obtain ⟨e0_32, g0_32, rfl, he0_32, hg_0_32⟩ := hg_0_31
  obtain rfl := he0_32
  obtain ⟨e0_33, g0_33, rfl, he0_33, hg_0_33⟩ := hg_0_32
  obtain rfl := he0_33
  obtain ⟨e0_34, g0_34, rfl, he0_34, hg_0_34⟩ := hg_0_33
  obtain rfl := he0_34
  obtain ⟨e0_35, g0_35, rfl, he0_35, hg_0_35⟩ := hg_0_34
  obtain rfl := he0_35
  obtain ⟨e0_36, g0_36, rfl, he0_36, hg_0_36⟩ := hg_0_35
  obtain rfl := he0_36
  obtain ⟨e0_37, g0_37, rfl, he0_37, hg_0_37⟩ := hg_0_36
  obtain rfl := he0_37
  obtain ⟨e0_38, g0_38, rfl, he0_38, hg_0_38⟩ := hg_0_37
  obtain rfl := he0_38
  obtain ⟨e0_39, g0_39, rfl, he0_39, hg_0_39⟩ := hg_0_38
  obtain rfl := he0_39
  obtain ⟨A0_38, c0_38, rfl, hc0_38, hr0_38⟩ := hg_0_39
  obtain ⟨e0_40, g0_40, rfl, he0_40, hg_0_40⟩ := hg_0_29
  obtain rfl := he0_40
  obtain ⟨e0_41, g0_41, rfl, he0_41, hg_0_41⟩ := hg_0_40
  obtain rfl := he0_41
  obtain ⟨e0_42, g0_42, rfl, he0_42, hg_0_42⟩ := hg_0_41
  obtain rfl := he0_42
  obtain ⟨e0_43, g0_43, rfl, he0_43, hg_0_43⟩ := hg_0_42
  obtain rfl := he0_43
  obtain ⟨e0_44, g0_44, rfl, he0_44, hg_0_44⟩ := hg_0_43
  obtain rfl := he0_44
  obtain ⟨e0_45, g0_45, rfl, he0_45, hg_0_45⟩ := hg_0_44
  obtain rfl := he0_45
  obtain ⟨e0_46, g0_46, rfl, he0_46, hg_0_46⟩ := hg_0_45
  obtain rfl := he0_46
  obtain ⟨e0_47, g0_47, rfl, he0_47, hg_0_47⟩ := hg_0_46
  obtain rfl := he0_47
  obtain ⟨e0_48, g0_48, rfl, he0_48, hg_0_48⟩ := hg_0_47
  obtain rfl := he0_48
  obtain ⟨e0_49, g0_49, rfl, he0_49, hg_0_49⟩ := hg_0_48
  obtain rfl := he0_49
  obtain ⟨A0_49, c0_49, rfl, hc0_49, hr0_49⟩ := hg_0_49
  obtain ⟨cs0, rfl, _⟩ := okWide_struct Try.underlying39 (hval 0 39 v0 rfl rfl)
  obtain rfl : cs0 = #[.int .i64 x0_.1.1, .int .i64 x0_.1.2.1, .int .i64 x0_.1.2.2.1, .int .i64 x0_.1.2.2.2.1, .int .i64 x0_.1.2.2.2.2.1, .int .i64 x0_.1.2.2.2.2.2.1, .int .i64 x0_.1.2.2.2.2.2.2.1, .int .i64 x0_.1.2.2.2.2.2.2.2.1, .int .i64 x0_.1.2.2.2.2.2.2.2.2.1, .int .i64 x0_.1.2.2.2.2.2.2.2.2.2.1, .int .i64 x0_.1.2.2.2.2.2.2.2.2.2.2.1, .string x0_.1.2.2.2.2.2.2.2.2.2.2.2.1, .string x0_.1.2.2.2.2.2.2.2.2.2.2.2.2.1, .string x0_.1.2.2.2.2.2.2.2.2.2.2.2.2.2, .int .i64 x0_.2.1.1, .int .i64 x0_.2.1.2.1, .int .i64 x0_.2.1.2.2.1, .int .i64 x0_.2.1.2.2.2.1, .int .i64 x0_.2.1.2.2.2.2.1, .int .i64 x0_.2.1.2.2.2.2.2.1, .int .i64 x0_.2.1.2.2.2.2.2.2.1, .int .i64 x0_.2.1.2.2.2.2.2.2.2.1, .int .i64 x0_.2.1.2.2.2.2.2.2.2.2.1, .int .i64 x0_.2.1.2.2.2.2.2.2.2.2.2.1, .int .i64 x0_.2.1.2.2.2.2.2.2.2.2.2.2.1, .string x0_.2.1.2.2.2.2.2.2.2.2.2.2.2.1, .string x0_.2.1.2.2.2.2.2.2.2.2.2.2.2.2.1, .string x0_.2.1.2.2.2.2.2.2.2.2.2.2.2.2.2, .int .i64 x0_.2.2.1.1, .int .i64 x0_.2.2.1.2.1, .int .i64 x0_.2.2.1.2.2.1, .int .i64 x0_.2.2.1.2.2.2.1, .int .i64 x0_.2.2.1.2.2.2.2.1, .int .i64 x0_.2.2.1.2.2.2.2.2.1, .int .i64 x0_.2.2.1.2.2.2.2.2.2.1, .int .i64 x0_.2.2.1.2.2.2.2.2.2.2.1, .int .i64 x0_.2.2.1.2.2.2.2.2.2.2.2.1, .string x0_.2.2.1.2.2.2.2.2.2.2.2.2.1, .slice A0_38 x0_.2.2.1.2.2.2.2.2.2.2.2.2.2.length c0_38, .int .i64 x0_.2.2.2.1, .int .i64 x0_.2.2.2.2.1, .int .i64 x0_.2.2.2.2.2.1, .int .i64 x0_.2.2.2.2.2.2.1, .int .i64 x0_.2.2.2.2.2.2.2.1, .int .i64 x0_.2.2.2.2.2.2.2.2.1, .int .i64 x0_.2.2.2.2.2.2.2.2.2.1, .int .i64 x0_.2.2.2.2.2.2.2.2.2.2.1, .int .i64 x0_.2.2.2.2.2.2.2.2.2.2.2.1, .string x0_.2.2.2.2.2.2.2.2.2.2.2.2.1, .slice A0_49 x0_.2.2.2.2.2.2.2.2.2.2.2.2.2.length c0_49] := by
    have h : [.int .i64 x0_.1.1, .int .i64 x0_.1.2.1, .int .i64 x0_.1.2.2.1, .int .i64 x0_.1.2.2.2.1, .int .i64 x0_.1.2.2.2.2.1, .int .i64 x0_.1.2.2.2.2.2.1, .int .i64 x0_.1.2.2.2.2.2.2.1, .int .i64 x0_.1.2.2.2.2.2.2.2.1, .int .i64 x0_.1.2.2.2.2.2.2.2.2.1, .int .i64 x0_.1.2.2.2.2.2.2.2.2.2.1, .int .i64 x0_.1.2.2.2.2.2.2.2.2.2.2.1, .string x0_.1.2.2.2.2.2.2.2.2.2.2.2.1, .string x0_.1.2.2.2.2.2.2.2.2.2.2.2.2.1, .string x0_.1.2.2.2.2.2.2.2.2.2.2.2.2.2, .int .i64 x0_.2.1.1, .int .i64 x0_.2.1.2.1, .int .i64 x0_.2.1.2.2.1, .int .i64 x0_.2.1.2.2.2.1, .int .i64 x0_.2.1.2.2.2.2.1, .int .i64 x0_.2.1.2.2.2.2.2.1, .int .i64 x0_.2.1.2.2.2.2.2.2.1, .int .i64 x0_.2.1.2.2.2.2.2.2.2.1, .int .i64 x0_.2.1.2.2.2.2.2.2.2.2.1, .int .i64 x0_.2.1.2.2.2.2.2.2.2.2.2.1, .int .i64 x0_.2.1.2.2.2.2.2.2.2.2.2.2.1, .string x0_.2.1.2.2.2.2.2.2.2.2.2.2.2.1, .string x0_.2.1.2.2.2.2.2.2.2.2.2.2.2.2.1, .string x0_.2.1.2.2.2.2.2.2.2.2.2.2.2.2.2, .int .i64 x0_.2.2.1.1, .int .i64 x0_.2.2.1.2.1, .int .i64 x0_.2.2.1.2.2.1, .int .i64 x0_.2.2.1.2.2.2.1, .int .i64 x0_.2.2.1.2.2.2.2.1, .int .i64 x0_.2.2.1.2.2.2.2.2.1, .int .i64 x0_.2.2.1.2.2.2.2.2.2.1, .int .i64 x0_.2.2.1.2.2.2.2.2.2.2.1, .int .i64 x0_.2.2.1.2.2.2.2.2.2.2.2.1, .string x0_.2.2.1.2.2.2.2.2.2.2.2.2.1, .slice A0_38 x0_.2.2.1.2.2.2.2.2.2.2.2.2.2.length c0_38, .int .i64 x0_.2.2.2.1, .int .i64 x0_.2.2.2.2.1, .int .i64 x0_.2.2.2.2.2.1, .int .i64 x0_.2.2.2.2.2.2.1, .int .i64 x0_.2.2.2.2.2.2.2.1, .int .i64 x0_.2.2.2.2.2.2.2.2.1, .int .i64 x0_.2.2.2.2.2.2.2.2.2.1, .int .i64 x0_.2.2.2.2.2.2.2.2.2.2.1, .int .i64 x0_.2.2.2.2.2.2.2.2.2.2.2.1, .string x0_.2.2.2.2.2.2.2.2.2.2.2.2.1, .slice A0_49 x0_.2.2.2.2.2.2.2.2.2.2.2.2.2.length c0_49] = cs0.toList := by first | exact hL0 | (simpa [Value.cells] using hL0)
    cases cs0; simp at h; rw [← h]
  have hby9 : Try.prog.bytesOf 9 = 16 := by kernel_rfl
  have hq0 : (((Lit.int .i64 x0_.1.1).wf = true ∧ (Lit.int .i64 x0_.1.2.1).wf = true ∧ (Lit.int .i64 x0_.1.2.2.1).wf = true ∧ (Lit.int .i64 x0_.1.2.2.2.1).wf = true ∧ (Lit.int .i64 x0_.1.2.2.2.2.1).wf = true ∧ (Lit.int .i64 x0_.1.2.2.2.2.2.1).wf = true ∧ ((Lit.int .i64 x0_.1.2.2.2.2.2.2.1).wf = true ∧ (Lit.int .i64 x0_.1.2.2.2.2.2.2.2.1).wf = true ∧ (Lit.int .i64 x0_.1.2.2.2.2.2.2.2.2.1).wf = true ∧ (Lit.int .i64 x0_.1.2.2.2.2.2.2.2.2.2.1).wf = true ∧ (Lit.int .i64 x0_.1.2.2.2.2.2.2.2.2.2.2.1).wf = true ∧ x0_.1.2.2.2.2.2.2.2.2.2.2.2.1.size ≤ 140737488351232 ∧ x0_.1.2.2.2.2.2.2.2.2.2.2.2.2.1.size ≤ 140737488351232 ∧ x0_.1.2.2.2.2.2.2.2.2.2.2.2.2.2.size ≤ 140737488351232)) ∧ ((Lit.int .i64 x0_.2.1.1).wf = true ∧ (Lit.int .i64 x0_.2.1.2.1).wf = true ∧ (Lit.int .i64 x0_.2.1.2.2.1).wf = true ∧ (Lit.int .i64 x0_.2.1.2.2.2.1).wf = true ∧ (Lit.int .i64 x0_.2.1.2.2.2.2.1).wf = true ∧ (Lit.int .i64 x0_.2.1.2.2.2.2.2.1).wf = true ∧ ((Lit.int .i64 x0_.2.1.2.2.2.2.2.2.1).wf = true ∧ (Lit.int .i64 x0_.2.1.2.2.2.2.2.2.2.1).wf = true ∧ (Lit.int .i64 x0_.2.1.2.2.2.2.2.2.2.2.1).wf = true ∧ (Lit.int .i64 x0_.2.1.2.2.2.2.2.2.2.2.2.1).wf = true ∧ (Lit.int .i64 x0_.2.1.2.2.2.2.2.2.2.2.2.2.1).wf = true ∧ x0_.2.1.2.2.2.2.2.2.2.2.2.2.2.1.size ≤ 140737488351232 ∧ x0_.2.1.2.2.2.2.2.2.2.2.2.2.2.2.1.size ≤ 140737488351232 ∧ x0_.2.1.2.2.2.2.2.2.2.2.2.2.2.2.2.size ≤ 140737488351232)) ∧ ((Lit.int .i64 x0_.2.2.1.1).wf = true ∧ (Lit.int .i64 x0_.2.2.1.2.1).wf = true ∧ (Lit.int .i64 x0_.2.2.1.2.2.1).wf = true ∧ (Lit.int .i64 x0_.2.2.1.2.2.2.1).wf = true ∧ (Lit.int .i64 x0_.2.2.1.2.2.2.2.1).wf = true ∧ ((Lit.int .i64 x0_.2.2.1.2.2.2.2.2.1).wf = true ∧ (Lit.int .i64 x0_.2.2.1.2.2.2.2.2.2.1).wf = true ∧ (Lit.int .i64 x0_.2.2.1.2.2.2.2.2.2.2.1).wf = true ∧ (Lit.int .i64 x0_.2.2.1.2.2.2.2.2.2.2.2.1).wf = true ∧ x0_.2.2.1.2.2.2.2.2.2.2.2.2.1.size ≤ 140737488351232 ∧ (x0_.2.2.1.2.2.2.2.2.2.2.2.2.2.length * 16 ≤ 140737488351232 ∧ ∀ y_ ∈ x0_.2.2.1.2.2.2.2.2.2.2.2.2.2, y_.size ≤ 140737488351232))) ∧ ((Lit.int .i64 x0_.2.2.2.1).wf = true ∧ (Lit.int .i64 x0_.2.2.2.2.1).wf = true ∧ (Lit.int .i64 x0_.2.2.2.2.2.1).wf = true ∧ (Lit.int .i64 x0_.2.2.2.2.2.2.1).wf = true ∧ (Lit.int .i64 x0_.2.2.2.2.2.2.2.1).wf = true ∧ ((Lit.int .i64 x0_.2.2.2.2.2.2.2.2.1).wf = true ∧ (Lit.int .i64 x0_.2.2.2.2.2.2.2.2.2.1).wf = true ∧ (Lit.int .i64 x0_.2.2.2.2.2.2.2.2.2.2.1).wf = true ∧ (Lit.int .i64 x0_.2.2.2.2.2.2.2.2.2.2.2.1).wf = true ∧ x0_.2.2.2.2.2.2.2.2.2.2.2.2.1.size ≤ 140737488351232 ∧ (x0_.2.2.2.2.2.2.2.2.2.2.2.2.2.length * 16 ≤ 140737488351232 ∧ ∀ y_ ∈ x0_.2.2.2.2.2.2.2.2.2.2.2.2.2, y_.size ≤ 140737488351232)))) := by have h := hg0; simp only [hby9] at h; exact h
  clear hA0 hval0 hsz0 hsz
  obtain ⟨k, hp⟩ := Pure.WireApart x0_.1.1 x0_.1.2.1 x0_.1.2.2.1 x0_.1.2.2.2.1 x0_.1.2.2.2.2.1 x0_.1.2.2.2.2.2.1 x0_.1.2.2.2.2.2.2.1 x0_.1.2.2.2.2.2.2.2.1 x0_.1.2.2.2.2.2.2.2.2.1 x0_.1.2.2.2.2.2.2.2.2.2.1 x0_.1.2.2.2.2.2.2.2.2.2.2.1 x0_.1.2.2.2.2.2.2.2.2.2.2.2.1 x0_.1.2.2.2.2.2.2.2.2.2.2.2.2.1 x0_.1.2.2.2.2.2.2.2.2.2.2.2.2.2 x0_.2.1.1 x0_.2.1.2.1 x0_.2.1.2.2.1 x0_.2.1.2.2.2.1 x0_.2.1.2.2.2.2.1 x0_.2.1.2.2.2.2.2.1 x0_.2.1.2.2.2.2.2.2.1 x0_.2.1.2.2.2.2.2.2.2.1 x0_.2.1.2.2.2.2.2.2.2.2.1 x0_.2.1.2.2.2.2.2.2.2.2.2.1 x0_.2.1.2.2.2.2.2.2.2.2.2.2.1 x0_.2.1.2.2.2.2.2.2.2.2.2.2.2.1 x0_.2.1.2.2.2.2.2.2.2.2.2.2.2.2.1 x0_.2.1.2.2.2.2.2.2.2.2.2.2.2.2.2 x0_.2.2.1.1 x0_.2.2.1.2.1 x0_.2.2.1.2.2.1 x0_.2.2.1.2.2.2.1 x0_.2.2.1.2.2.2.2.1 x0_.2.2.1.2.2.2.2.2.1 x0_.2.2.1.2.2.2.2.2.2.1 x0_.2.2.1.2.2.2.2.2.2.2.1 x0_.2.2.1.2.2.2.2.2.2.2.2.1 x0_.2.2.1.2.2.2.2.2.2.2.2.2.1 x0_.2.2.1.2.2.2.2.2.2.2.2.2.2 x0_.2.2.2.1 x0_.2.2.2.2.1 x0_.2.2.2.2.2.1 x0_.2.2.2.2.2.2.1 x0_.2.2.2.2.2.2.2.1 x0_.2.2.2.2.2.2.2.2.1 x0_.2.2.2.2.2.2.2.2.2.1 x0_.2.2.2.2.2.2.2.2.2.2.1 x0_.2.2.2.2.2.2.2.2.2.2.2.1 x0_.2.2.2.2.2.2.2.2.2.2.2.2.1 x0_.2.2.2.2.2.2.2.2.2.2.2.2.2 hq0.1.1 hq0.1.2.1 hq0.1.2.2.1 hq0.1.2.2.2.1 hq0.1.2.2.2.2.1 hq0.1.2.2.2.2.2.1 hq0.1.2.2.2.2.2.2.1 hq0.1.2.2.2.2.2.2.2.1 hq0.1.2.2.2.2.2.2.2.2.1 hq0.1.2.2.2.2.2.2.2.2.2.1 hq0.1.2.2.2.2.2.2.2.2.2.2.1 hq0.1.2.2.2.2.2.2.2.2.2.2.2.1 hq0.1.2.2.2.2.2.2.2.2.2.2.2.2.1 hq0.1.2.2.2.2.2.2.2.2.2.2.2.2.2 hq0.2.1.1 hq0.2.1.2.1 hq0.2.1.2.2.1 hq0.2.1.2.2.2.1 hq0.2.1.2.2.2.2.1 hq0.2.1.2.2.2.2.2.1 hq0.2.1.2.2.2.2.2.2.1 hq0.2.1.2.2.2.2.2.2.2.1 hq0.2.1.2.2.2.2.2.2.2.2.1 hq0.2.1.2.2.2.2.2.2.2.2.2.1 hq0.2.1.2.2.2.2.2.2.2.2.2.2.1 hq0.2.1.2.2.2.2.2.2.2.2.2.2.2.1 hq0.2.1.2.2.2.2.2.2.2.2.2.2.2.2.1 hq0.2.1.2.2.2.2.2.2.2.2.2.2.2.2.2 hq0.2.2.1.1 hq0.2.2.1.2.1 hq0.2.2.1.2.2.1 hq0.2.2.1.2.2.2.1 hq0.2.2.1.2.2.2.2.1 hq0.2.2.1.2.2.2.2.2.1 hq0.2.2.1.2.2.2.2.2.2.1 hq0.2.2.1.2.2.2.2.2.2.2.1 hq0.2.2.1.2.2.2.2.2.2.2.2.1 hq0.2.2.1.2.2.2.2.2.2.2.2.2.1 hq0.2.2.1.2.2.2.2.2.2.2.2.2.2 hq0.2.2.2.1 hq0.2.2.2.2.1 hq0.2.2.2.2.2.1 hq0.2.2.2.2.2.2.1 hq0.2.2.2.2.2.2.2.1 hq0.2.2.2.2.2.2.2.2.1 hq0.2.2.2.2.2.2.2.2.2.1 hq0.2.2.2.2.2.2.2.2.2.2.1 hq0.2.2.2.2.2.2.2.2.2.2.2.1 hq0.2.2.2.2.2.2.2.2.2.2.2.2.1 hq0.2.2.2.2.2.2.2.2.2.2.2.2.2
  refine (Go.Proofs.Ytgnmhbkialgeaaa.R.copyholdlaw15_WireApart.calls k x0_.1.1 x0_.1.2.1 x0_.1.2.2.1 x0_.1.2.2.2.1 x0_.1.2.2.2.2.1 x0_.1.2.2.2.2.2.1 x0_.1.2.2.2.2.2.2.1 x0_.1.2.2.2.2.2.2.2.1 x0_.1.2.2.2.2.2.2.2.2.1 x0_.1.2.2.2.2.2.2.2.2.2.1 x0_.1.2.2.2.2.2.2.2.2.2.2.1 x0_.1.2.2.2.2.2.2.2.2.2.2.2.1 x0_.1.2.2.2.2.2.2.2.2.2.2.2.2.1 x0_.1.2.2.2.2.2.2.2.2.2.2.2.2.2 x0_.2.1.1 x0_.2.1.2.1 x0_.2.1.2.2.1 x0_.2.1.2.2.2.1 x0_.2.1.2.2.2.2.1 x0_.2.1.2.2.2.2.2.1 x0_.2.1.2.2.2.2.2.2.1 x0_.2.1.2.2.2.2.2.2.2.1 x0_.2.1.2.2.2.2.2.2.2.2.1 x0_.2.1.2.2.2.2.2.2.2.2.2.1 x0_.2.1.2.2.2.2.2.2.2.2.2.2.1 x0_.2.1.2.2.2.2.2.2.2.2.2.2.2.1 x0_.2.1.2.2.2.2.2.2.2.2.2.2.2.2.1 x0_.2.1.2.2.2.2.2.2.2.2.2.2.2.2.2 x0_.2.2.1.1 x0_.2.2.1.2.1 x0_.2.2.1.2.2.1 x0_.2.2.1.2.2.2.1 x0_.2.2.1.2.2.2.2.1 x0_.2.2.1.2.2.2.2.2.1 x0_.2.2.1.2.2.2.2.2.2.1 x0_.2.2.1.2.2.2.2.2.2.2.1 x0_.2.2.1.2.2.2.2.2.2.2.2.1 x0_.2.2.1.2.2.2.2.2.2.2.2.2.1 A0_38 c0_38 x0_.2.2.1.2.2.2.2.2.2.2.2.2.2 x0_.2.2.2.1 x0_.2.2.2.2.1 x0_.2.2.2.2.2.1 x0_.2.2.2.2.2.2.1 x0_.2.2.2.2.2.2.2.1 x0_.2.2.2.2.2.2.2.2.1 x0_.2.2.2.2.2.2.2.2.2.1 x0_.2.2.2.2.2.2.2.2.2.2.1 x0_.2.2.2.2.2.2.2.2.2.2.2.1 x0_.2.2.2.2.2.2.2.2.2.2.2.2.1 A0_49 c0_49 x0_.2.2.2.2.2.2.2.2.2.2.2.2.2 true W hr0_38 hc0_38 hr0_49 hc0_49 hp).mono ?_
  rintro e W' ⟨rfl, bel0⟩
  have bel : Below W.heap.size W W' := bel0
  exact ⟨_, rfl, _, _, _, [], _, [], hW', trodAll_mk1 (shut_bool Try.underlying4 _), (trodAll_cons_mk (Below.trod laidOut (by kernel_rfl) (of_decide_eq_true (by kernel_rfl)) k0 bel lt0) trodAll_mk0), rfl, bel.frame _, fun h => by cases h⟩
theorem over : Rows.wireApartRow.holds Try.pinned (OpenSpec.ofChange Rows.wireApartSpec) :=
  OpenClaim.holds_of_wide 4 Try.f4 rfl rfl rfl rfl rfl rfl rfl ⟨rfl, rfl, rfl, rfl, rfl⟩ rfl rfl rfl rfl rfl (by kernel_rfl) Try.func4 (by kernel_rfl)
    (of_decide_eq_true (by kernel_rfl)) (by unfold Func.isWrapper; first | (rw [if_pos (by decide +kernel)]; kernel_rfl) | (rw [if_neg (by decide +kernel)]; exact ⟨rfl, rfl⟩))
    (fun os started H enc _ => lifted os started H enc)
theorem proved : Rows.WireApartSaid := over
#print axioms proved
end Go.Proofs.Ytgnmhbkialgeaaa.wireApartR
namespace Go.Proofs.Ytgnmhbkialgeaaa
/-- The row, under a short name, for the claim. -/
theorem wireApart_holds : Rows.WireApartSaid := wireApartR.proved
end Go.Proofs.Ytgnmhbkialgeaaa
