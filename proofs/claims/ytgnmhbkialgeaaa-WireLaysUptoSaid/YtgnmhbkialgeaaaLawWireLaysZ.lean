import Derived.Test.YtgnmhbkialgeaaaRows
import Derived.Test.YtgnmhbkialgeaaaZWireLays26
import Derived.Test.YtgnmhbkialgeaaaZWireLays27
import Derived.WalkKit
import Derived.ProofKit
import Derived.OpenShut
import Derived.ShutString
import Derived.ChangeOld
import Derived.Below
import Derived.SizedLaws
import Derived.JoinedCond
import Derived.Deep.CondSized
/- The row of WireLays: where what it reads is of bulk at most 1048576, the law returns true. Its conditions: those of the given statement, and no others. -/
namespace Go.Proofs.Ytgnmhbkialgeaaa.wireLaysR
open Go.ChangeShapes Go.WideShapes Go.ChangeAt Go.RowKit Go.Proofs.YtgnmhbkialgeaaaW.PrintWords
open Go.ChangeMaps (open_string shut_string)
set_option linter.unusedVariables false
set_option linter.unusedSimpArgs false
theorem own : ownKnob Try.prog.godebug = none := by kernel_rfl
theorem laidOut : laidOutB Try.prog = true := by kernel_rfl
set_option maxRecDepth 100000 in
set_option maxHeartbeats 2000000 in
theorem lifted (os : Os) (started : os.Started) (H : Type) (enc : TypeId × Value → H) (F : Stop.Interp) :
    ReturnsInHanded {} Try.checked os 5 .any ((Rows.OpenSpec.upto Rows.wireLaysSpec).pre6 enc Try.prog Try.f5 Rows.wireLaysUptoRow.domain false) (((Rows.OpenSpec.upto Rows.wireLaysSpec).at F).post enc Try.prog Try.f5 false true false false) := by
  refine returnsInHanded_of_cond_sized (C := Try.checked) (s := (Rows.OpenSpec.upto Rows.wireLaysSpec)) (k := Rows.uptoSmall) rfl own started (by kernel_rfl) Try.func5
    (OpenSpec.witness (enc := enc) (C := Try.checked) (s := (Rows.OpenSpec.upto Rows.wireLaysSpec)) (k := Rows.uptoSmall) rfl false ⟨#[], #[.agg #[.int .i64 0, .int .i64 0, .int .i64 0, .int .i64 0, .int .i64 0, .int .i64 0, .int .i64 0, .int .i64 0, .int .i64 0, .int .i64 0, .int .i64 0, .string ByteArray.empty, .string ByteArray.empty, .string ByteArray.empty], .agg #[.int .i64 0, .int .i64 0, .int .i64 0, .int .i64 0, .int .i64 0, .int .i64 0, .int .i64 0, .int .i64 0, .int .i64 0, .string ByteArray.empty, .slice none 0 0], .agg #[.int .i64 0, .int .i64 0, .int .i64 0, .int .i64 0, .int .i64 0, .int .i64 0, .int .i64 0, .int .i64 0, .int .i64 0, .string ByteArray.empty, .slice none 0 0]], []⟩ 8 (by kernel_rfl) (by kernel_rfl) (by kernel_rfl)
      (x := ([.agg [.lit (.int .i64 0), .lit (.int .i64 0), .lit (.int .i64 0), .lit (.int .i64 0), .lit (.int .i64 0), .lit (.int .i64 0), .agg [.lit (.int .i64 0), .lit (.int .i64 0), .lit (.int .i64 0), .lit (.int .i64 0), .lit (.int .i64 0), .lit (.string []), .lit (.string []), .lit (.string [])]], .agg [.lit (.int .i64 0), .lit (.int .i64 0), .lit (.int .i64 0), .lit (.int .i64 0), .lit (.int .i64 0), .agg [.lit (.int .i64 0), .lit (.int .i64 0), .lit (.int .i64 0), .lit (.int .i64 0), .lit (.string []), .nil]], .agg [.lit (.int .i64 0), .lit (.int .i64 0), .lit (.int .i64 0), .lit (.int .i64 0), .lit (.int .i64 0), .agg [.lit (.int .i64 0), .lit (.int .i64 0), .lit (.int .i64 0), .lit (.int .i64 0), .lit (.string []), .nil]]], [], [])) (by kernel_rfl) rfl (by kernel_rfl)) ?_
  intro W base args ds gs before hval0 hW _ hk hsz0 _
  have hsz : (DataW.weightsEach Try.prog (Try.f5.params.toList ++ Rows.wireLaysSpec.plain.varTypes Try.prog) (ds ++ gs)).all (· ≤ reachBytes) = true := hsz0
  have hval : ∀ (j : Nat) t v, Try.f5.params[j]? = some t → args[j]? = some v → Value.okWide Try.prog W .any base t v := hval0
  have hW' := hW
  obtain ⟨p, q, hA0, hV, rfl, hfz, hnd⟩ := hW
  have hA : DataW.TrodAll enc Try.prog W 0 (fun _ => true) true Try.f5.params.toList args.toList ds p := hA0
  rw [Try.params5] at hA hval hsz
  obtain ⟨v0, vs0, d0, ds0, p0, q0, hargs, rfl, rfl, h0, r0⟩ := trodAll_cons hA
  obtain ⟨v1, vs1, d1, ds1, p1, q1, rfl, rfl, rfl, h1, r1⟩ := trodAll_cons r0
  obtain ⟨v2, vs2, d2, ds2, p2, q2, rfl, rfl, rfl, h2, r2⟩ := trodAll_cons r1
  obtain ⟨rfl, rfl, rfl⟩ := trodAll_nil r2
  obtain rfl : args = #[v0, v1, v2] := by cases args; simp_all
  obtain ⟨rfl, rfl⟩ := trodVars_none hV
  have k0 := h0
  have lt0 : ∀ x ∈ p0, x.block < W.heap.size := by obtain ⟨m, hm⟩ := k0; exact DataW.trod_lt m _ _ _ hm
  obtain ⟨fuel0, hf0⟩ := h0
  obtain ⟨x0_, hK0, hG0, hB0⟩ := (Opn.Opens.open_ (enc := enc) (w := W) (Opn.opens_struct id id (fun _ => rfl) Try.underlying32 (by kernel_rfl) (Opn.opensF_cons (Opn.opens_int (k := .i64) Try.underlying3 (by kernel_rfl)) rfl (Opn.opensF_cons (Opn.opens_int (k := .i64) Try.underlying3 (by kernel_rfl)) rfl (Opn.opensF_cons (Opn.opens_int (k := .i64) Try.underlying3 (by kernel_rfl)) rfl (Opn.opensF_cons (Opn.opens_int (k := .i64) Try.underlying3 (by kernel_rfl)) rfl (Opn.opensF_cons (Opn.opens_int (k := .i64) Try.underlying3 (by kernel_rfl)) rfl (Opn.opensF_cons (Opn.opens_int (k := .i64) Try.underlying3 (by kernel_rfl)) rfl (Opn.opensF_one (Opn.opens_struct id id (fun _ => rfl) Try.underlying23 (by kernel_rfl) (Opn.opensF_cons (Opn.opens_int (k := .i64) Try.underlying3 (by kernel_rfl)) rfl (Opn.opensF_cons (Opn.opens_int (k := .i64) Try.underlying3 (by kernel_rfl)) rfl (Opn.opensF_cons (Opn.opens_int (k := .i64) Try.underlying3 (by kernel_rfl)) rfl (Opn.opensF_cons (Opn.opens_int (k := .i64) Try.underlying3 (by kernel_rfl)) rfl (Opn.opensF_cons (Opn.opens_int (k := .i64) Try.underlying3 (by kernel_rfl)) rfl (Opn.opensF_cons (Opn.opens_string Try.underlying9 (by kernel_rfl)) rfl (Opn.opensF_cons (Opn.opens_string Try.underlying9 (by kernel_rfl)) rfl (Opn.opensF_one (Opn.opens_string Try.underlying9 (by kernel_rfl)))))))))))))))))))) fuel0 _ _ _ hf0
  have hg0 := hG0 (fun n hn => by have h := List.all_eq_true.1 hsz n (DataW.weights_mem_each (j := 0) rfl rfl n hn); exact of_decide_eq_true h)
  obtain ⟨L0, hL0⟩ : ∃ L, L = (v0 : Value).cells.toList := ⟨_, rfl⟩
  rw [← hL0] at hK0
  clear hG0 hf0
  obtain ⟨e0_1, g0_1, rfl, he0_1, hg_0_1⟩ := hK0
  obtain rfl := he0_1
  obtain ⟨e0_2, g0_2, rfl, he0_2, hg_0_2⟩ := hg_0_1
  obtain rfl := he0_2
  obtain ⟨e0_3, g0_3, rfl, he0_3, hg_0_3⟩ := hg_0_2
  obtain rfl := he0_3
  obtain ⟨e0_4, g0_4, rfl, he0_4, hg_0_4⟩ := hg_0_3
  obtain rfl := he0_4
  obtain ⟨e0_5, g0_5, rfl, he0_5, hg_0_5⟩ := hg_0_4
  obtain rfl := he0_5
  obtain ⟨e0_6, g0_6, rfl, he0_6, hg_0_6⟩ := hg_0_5
  obtain rfl := he0_6
  obtain ⟨e0_7, g0_7, rfl, he0_7, hg_0_7⟩ := hg_0_6
  obtain rfl := he0_7
  obtain ⟨e0_8, g0_8, rfl, he0_8, hg_0_8⟩ := hg_0_7
  obtain rfl := he0_8
  obtain ⟨e0_9, g0_9, rfl, he0_9, hg_0_9⟩ := hg_0_8
  obtain rfl := he0_9
  obtain ⟨e0_10, g0_10, rfl, he0_10, hg_0_10⟩ := hg_0_9
  obtain rfl := he0_10
  obtain ⟨e0_11, g0_11, rfl, he0_11, hg_0_11⟩ := hg_0_10
  obtain rfl := he0_11
  obtain ⟨e0_12, g0_12, rfl, he0_12, hg_0_12⟩ := hg_0_11
  obtain rfl := he0_12
  obtain ⟨e0_13, g0_13, rfl, he0_13, hg_0_13⟩ := hg_0_12
  obtain rfl := he0_13
  obtain rfl := hg_0_13
  obtain ⟨cs0, rfl, _⟩ := okWide_struct Try.underlying32 (hval 0 32 v0 rfl rfl)
  obtain rfl : cs0 = #[.int .i64 x0_.1, .int .i64 x0_.2.1, .int .i64 x0_.2.2.1, .int .i64 x0_.2.2.2.1, .int .i64 x0_.2.2.2.2.1, .int .i64 x0_.2.2.2.2.2.1, .int .i64 x0_.2.2.2.2.2.2.1, .int .i64 x0_.2.2.2.2.2.2.2.1, .int .i64 x0_.2.2.2.2.2.2.2.2.1, .int .i64 x0_.2.2.2.2.2.2.2.2.2.1, .int .i64 x0_.2.2.2.2.2.2.2.2.2.2.1, .string x0_.2.2.2.2.2.2.2.2.2.2.2.1, .string x0_.2.2.2.2.2.2.2.2.2.2.2.2.1, .string x0_.2.2.2.2.2.2.2.2.2.2.2.2.2] := by
    have h : [.int .i64 x0_.1, .int .i64 x0_.2.1, .int .i64 x0_.2.2.1, .int .i64 x0_.2.2.2.1, .int .i64 x0_.2.2.2.2.1, .int .i64 x0_.2.2.2.2.2.1, .int .i64 x0_.2.2.2.2.2.2.1, .int .i64 x0_.2.2.2.2.2.2.2.1, .int .i64 x0_.2.2.2.2.2.2.2.2.1, .int .i64 x0_.2.2.2.2.2.2.2.2.2.1, .int .i64 x0_.2.2.2.2.2.2.2.2.2.2.1, .string x0_.2.2.2.2.2.2.2.2.2.2.2.1, .string x0_.2.2.2.2.2.2.2.2.2.2.2.2.1, .string x0_.2.2.2.2.2.2.2.2.2.2.2.2.2] = cs0.toList := by first | exact hL0 | (simpa [Value.cells] using hL0)
    cases cs0; simp at h; rw [← h]
  have k1 := h1
  have lt1 : ∀ x ∈ p1, x.block < W.heap.size := by obtain ⟨m, hm⟩ := k1; exact DataW.trod_lt m _ _ _ hm
  obtain ⟨fuel1, hf1⟩ := h1
  obtain ⟨x1_, hK1, hG1, hB1⟩ := (Opn.Opens.open_ (enc := enc) (w := W) (Opn.opens_struct id id (fun _ => rfl) Try.underlying37 (by kernel_rfl) (Opn.opensF_cons (Opn.opens_int (k := .i64) Try.underlying3 (by kernel_rfl)) rfl (Opn.opensF_cons (Opn.opens_int (k := .i64) Try.underlying3 (by kernel_rfl)) rfl (Opn.opensF_cons (Opn.opens_int (k := .i64) Try.underlying3 (by kernel_rfl)) rfl (Opn.opensF_cons (Opn.opens_int (k := .i64) Try.underlying3 (by kernel_rfl)) rfl (Opn.opensF_cons (Opn.opens_int (k := .i64) Try.underlying3 (by kernel_rfl)) rfl (Opn.opensF_one (Opn.opens_struct id id (fun _ => rfl) Try.underlying35 (by kernel_rfl) (Opn.opensF_cons (Opn.opens_int (k := .i64) Try.underlying27 (by kernel_rfl)) rfl (Opn.opensF_cons (Opn.opens_int (k := .i64) Try.underlying3 (by kernel_rfl)) rfl (Opn.opensF_cons (Opn.opens_int (k := .i64) Try.underlying3 (by kernel_rfl)) rfl (Opn.opensF_cons (Opn.opens_int (k := .i64) Try.underlying3 (by kernel_rfl)) rfl (Opn.opensF_cons (Opn.opens_string Try.underlying9 (by kernel_rfl)) rfl (Opn.opensF_one (Opn.opens_slice Try.underlying33 (by kernel_rfl) (Opn.opens_string Try.underlying9 (by kernel_rfl)))))))))))))))))) fuel1 _ _ _ hf1
  have hg1 := hG1 (fun n hn => by have h := List.all_eq_true.1 hsz n (DataW.weights_mem_each (j := 1) rfl rfl n hn); exact of_decide_eq_true h)
  obtain ⟨L1, hL1⟩ : ∃ L, L = (v1 : Value).cells.toList := ⟨_, rfl⟩
  rw [← hL1] at hK1
  clear hG1 hf1
  obtain ⟨e1_1, g1_1, rfl, he1_1, hg_1_1⟩ := hK1
  obtain rfl := he1_1
  obtain ⟨e1_2, g1_2, rfl, he1_2, hg_1_2⟩ := hg_1_1
  obtain rfl := he1_2
  obtain ⟨e1_3, g1_3, rfl, he1_3, hg_1_3⟩ := hg_1_2
  obtain rfl := he1_3
  obtain ⟨e1_4, g1_4, rfl, he1_4, hg_1_4⟩ := hg_1_3
  obtain rfl := he1_4
  obtain ⟨e1_5, g1_5, rfl, he1_5, hg_1_5⟩ := hg_1_4
  obtain rfl := he1_5
  obtain ⟨e1_6, g1_6, rfl, he1_6, hg_1_6⟩ := hg_1_5
  obtain rfl := he1_6
  obtain ⟨e1_7, g1_7, rfl, he1_7, hg_1_7⟩ := hg_1_6
  obtain rfl := he1_7
  obtain ⟨e1_8, g1_8, rfl, he1_8, hg_1_8⟩ := hg_1_7
  obtain rfl := he1_8
  obtain ⟨e1_9, g1_9, rfl, he1_9, hg_1_9⟩ := hg_1_8
  obtain rfl := he1_9
  obtain ⟨e1_10, g1_10, rfl, he1_10, hg_1_10⟩ := hg_1_9
  obtain rfl := he1_10
  obtain ⟨A1_10, c1_10, rfl, hc1_10, hr1_10⟩ := hg_1_10
  obtain ⟨cs1, rfl, _⟩ := okWide_struct Try.underlying37 (hval 1 37 v1 rfl rfl)
  obtain rfl : cs1 = #[.int .i64 x1_.1, .int .i64 x1_.2.1, .int .i64 x1_.2.2.1, .int .i64 x1_.2.2.2.1, .int .i64 x1_.2.2.2.2.1, .int .i64 x1_.2.2.2.2.2.1, .int .i64 x1_.2.2.2.2.2.2.1, .int .i64 x1_.2.2.2.2.2.2.2.1, .int .i64 x1_.2.2.2.2.2.2.2.2.1, .string x1_.2.2.2.2.2.2.2.2.2.1, .slice A1_10 x1_.2.2.2.2.2.2.2.2.2.2.length c1_10] := by
    have h : [.int .i64 x1_.1, .int .i64 x1_.2.1, .int .i64 x1_.2.2.1, .int .i64 x1_.2.2.2.1, .int .i64 x1_.2.2.2.2.1, .int .i64 x1_.2.2.2.2.2.1, .int .i64 x1_.2.2.2.2.2.2.1, .int .i64 x1_.2.2.2.2.2.2.2.1, .int .i64 x1_.2.2.2.2.2.2.2.2.1, .string x1_.2.2.2.2.2.2.2.2.2.1, .slice A1_10 x1_.2.2.2.2.2.2.2.2.2.2.length c1_10] = cs1.toList := by first | exact hL1 | (simpa [Value.cells] using hL1)
    cases cs1; simp at h; rw [← h]
  have k2 := h2
  have lt2 : ∀ x ∈ p2, x.block < W.heap.size := by obtain ⟨m, hm⟩ := k2; exact DataW.trod_lt m _ _ _ hm
  obtain ⟨fuel2, hf2⟩ := h2
  obtain ⟨x2_, hK2, hG2, hB2⟩ := (Opn.Opens.open_ (enc := enc) (w := W) (Opn.opens_struct id id (fun _ => rfl) Try.underlying37 (by kernel_rfl) (Opn.opensF_cons (Opn.opens_int (k := .i64) Try.underlying3 (by kernel_rfl)) rfl (Opn.opensF_cons (Opn.opens_int (k := .i64) Try.underlying3 (by kernel_rfl)) rfl (Opn.opensF_cons (Opn.opens_int (k := .i64) Try.underlying3 (by kernel_rfl)) rfl (Opn.opensF_cons (Opn.opens_int (k := .i64) Try.underlying3 (by kernel_rfl)) rfl (Opn.opensF_cons (Opn.opens_int (k := .i64) Try.underlying3 (by kernel_rfl)) rfl (Opn.opensF_one (Opn.opens_struct id id (fun _ => rfl) Try.underlying35 (by kernel_rfl) (Opn.opensF_cons (Opn.opens_int (k := .i64) Try.underlying27 (by kernel_rfl)) rfl (Opn.opensF_cons (Opn.opens_int (k := .i64) Try.underlying3 (by kernel_rfl)) rfl (Opn.opensF_cons (Opn.opens_int (k := .i64) Try.underlying3 (by kernel_rfl)) rfl (Opn.opensF_cons (Opn.opens_int (k := .i64) Try.underlying3 (by kernel_rfl)) rfl (Opn.opensF_cons (Opn.opens_string Try.underlying9 (by kernel_rfl)) rfl (Opn.opensF_one (Opn.opens_slice Try.underlying33 (by kernel_rfl) (Opn.opens_string Try.underlying9 (by kernel_rfl)))))))))))))))))) fuel2 _ _ _ hf2
  have hg2 := hG2 (fun n hn => by have h := List.all_eq_true.1 hsz n (DataW.weights_mem_each (j := 2) rfl rfl n hn); exact of_decide_eq_true h)
  obtain ⟨L2, hL2⟩ : ∃ L, L = (v2 : Value).cells.toList := ⟨_, rfl⟩
  rw [← hL2] at hK2
  clear hG2 hf2
  obtain ⟨e2_1, g2_1, rfl, he2_1, hg_2_1⟩ := hK2
  obtain rfl := he2_1
  obtain ⟨e2_2, g2_2, rfl, he2_2, hg_2_2⟩ := hg_2_1
  obtain rfl := he2_2
  obtain ⟨e2_3, g2_3, rfl, he2_3, hg_2_3⟩ := hg_2_2
  obtain rfl := he2_3
  obtain ⟨e2_4, g2_4, rfl, he2_4, hg_2_4⟩ := hg_2_3
  obtain rfl := he2_4
  obtain ⟨e2_5, g2_5, rfl, he2_5, hg_2_5⟩ := hg_2_4
  obtain rfl := he2_5
  obtain ⟨e2_6, g2_6, rfl, he2_6, hg_2_6⟩ := hg_2_5
  obtain rfl := he2_6
  obtain ⟨e2_7, g2_7, rfl, he2_7, hg_2_7⟩ := hg_2_6
  obtain rfl := he2_7
  obtain ⟨e2_8, g2_8, rfl, he2_8, hg_2_8⟩ := hg_2_7
  obtain rfl := he2_8
  obtain ⟨e2_9, g2_9, rfl, he2_9, hg_2_9⟩ := hg_2_8
  obtain rfl := he2_9
  obtain ⟨e2_10, g2_10, rfl, he2_10, hg_2_10⟩ := hg_2_9
  obtain rfl := he2_10
  obtain ⟨A2_10, c2_10, rfl, hc2_10, hr2_10⟩ := hg_2_10
  obtain ⟨cs2, rfl, _⟩ := okWide_struct Try.underlying37 (hval 2 37 v2 rfl rfl)
  obtain rfl : cs2 = #[.int .i64 x2_.1, .int .i64 x2_.2.1, .int .i64 x2_.2.2.1, .int .i64 x2_.2.2.2.1, .int .i64 x2_.2.2.2.2.1, .int .i64 x2_.2.2.2.2.2.1, .int .i64 x2_.2.2.2.2.2.2.1, .int .i64 x2_.2.2.2.2.2.2.2.1, .int .i64 x2_.2.2.2.2.2.2.2.2.1, .string x2_.2.2.2.2.2.2.2.2.2.1, .slice A2_10 x2_.2.2.2.2.2.2.2.2.2.2.length c2_10] := by
    have h : [.int .i64 x2_.1, .int .i64 x2_.2.1, .int .i64 x2_.2.2.1, .int .i64 x2_.2.2.2.1, .int .i64 x2_.2.2.2.2.1, .int .i64 x2_.2.2.2.2.2.1, .int .i64 x2_.2.2.2.2.2.2.1, .int .i64 x2_.2.2.2.2.2.2.2.1, .int .i64 x2_.2.2.2.2.2.2.2.2.1, .string x2_.2.2.2.2.2.2.2.2.2.1, .slice A2_10 x2_.2.2.2.2.2.2.2.2.2.2.length c2_10] = cs2.toList := by first | exact hL2 | (simpa [Value.cells] using hL2)
    cases cs2; simp at h; rw [← h]
  have hby9 : Try.prog.bytesOf 9 = 16 := by kernel_rfl
  have hq0 : ((Lit.int .i64 x0_.1).wf = true ∧ (Lit.int .i64 x0_.2.1).wf = true ∧ (Lit.int .i64 x0_.2.2.1).wf = true ∧ (Lit.int .i64 x0_.2.2.2.1).wf = true ∧ (Lit.int .i64 x0_.2.2.2.2.1).wf = true ∧ (Lit.int .i64 x0_.2.2.2.2.2.1).wf = true ∧ ((Lit.int .i64 x0_.2.2.2.2.2.2.1).wf = true ∧ (Lit.int .i64 x0_.2.2.2.2.2.2.2.1).wf = true ∧ (Lit.int .i64 x0_.2.2.2.2.2.2.2.2.1).wf = true ∧ (Lit.int .i64 x0_.2.2.2.2.2.2.2.2.2.1).wf = true ∧ (Lit.int .i64 x0_.2.2.2.2.2.2.2.2.2.2.1).wf = true ∧ x0_.2.2.2.2.2.2.2.2.2.2.2.1.size ≤ 140737488351232 ∧ x0_.2.2.2.2.2.2.2.2.2.2.2.2.1.size ≤ 140737488351232 ∧ x0_.2.2.2.2.2.2.2.2.2.2.2.2.2.size ≤ 140737488351232)) := by have h := hg0; exact h
  have hq1 : ((Lit.int .i64 x1_.1).wf = true ∧ (Lit.int .i64 x1_.2.1).wf = true ∧ (Lit.int .i64 x1_.2.2.1).wf = true ∧ (Lit.int .i64 x1_.2.2.2.1).wf = true ∧ (Lit.int .i64 x1_.2.2.2.2.1).wf = true ∧ ((Lit.int .i64 x1_.2.2.2.2.2.1).wf = true ∧ (Lit.int .i64 x1_.2.2.2.2.2.2.1).wf = true ∧ (Lit.int .i64 x1_.2.2.2.2.2.2.2.1).wf = true ∧ (Lit.int .i64 x1_.2.2.2.2.2.2.2.2.1).wf = true ∧ x1_.2.2.2.2.2.2.2.2.2.1.size ≤ 140737488351232 ∧ (x1_.2.2.2.2.2.2.2.2.2.2.length * 16 ≤ 140737488351232 ∧ ∀ y_ ∈ x1_.2.2.2.2.2.2.2.2.2.2, y_.size ≤ 140737488351232))) := by have h := hg1; simp only [hby9] at h; exact h
  have hq2 : ((Lit.int .i64 x2_.1).wf = true ∧ (Lit.int .i64 x2_.2.1).wf = true ∧ (Lit.int .i64 x2_.2.2.1).wf = true ∧ (Lit.int .i64 x2_.2.2.2.1).wf = true ∧ (Lit.int .i64 x2_.2.2.2.2.1).wf = true ∧ ((Lit.int .i64 x2_.2.2.2.2.2.1).wf = true ∧ (Lit.int .i64 x2_.2.2.2.2.2.2.1).wf = true ∧ (Lit.int .i64 x2_.2.2.2.2.2.2.2.1).wf = true ∧ (Lit.int .i64 x2_.2.2.2.2.2.2.2.2.1).wf = true ∧ x2_.2.2.2.2.2.2.2.2.2.1.size ≤ 140737488351232 ∧ (x2_.2.2.2.2.2.2.2.2.2.2.length * 16 ≤ 140737488351232 ∧ ∀ y_ ∈ x2_.2.2.2.2.2.2.2.2.2.2, y_.size ≤ 140737488351232))) := by have h := hg2; simp only [hby9] at h; exact h
  have hbound : Rows.uptoBulkAll ([d0, d1, d2] : List (DataW H)) ≤ 1048576 := by have h := of_decide_eq_true hk; simpa using h
  simp only [Rows.uptoBulkAll] at hbound
  have hbb0 : ((1 + (1 + (1 + (1 + (1 + (1 + ((1 + (1 + (1 + (1 + (1 + ((x0_.2.2.2.2.2.2.2.2.2.2.2.1.size + 1) + ((x0_.2.2.2.2.2.2.2.2.2.2.2.2.1.size + 1) + (x0_.2.2.2.2.2.2.2.2.2.2.2.2.2.size + 1)))))))) + 1))))))) + 1) ≤ Rows.uptoBulk d0 := hB0
  have hbb1 : ((1 + (1 + (1 + (1 + (1 + ((1 + (1 + (1 + (1 + ((x1_.2.2.2.2.2.2.2.2.2.1.size + 1) + ((x1_.2.2.2.2.2.2.2.2.2.2.map fun y_ => (y_.size + 1)).sum + 1)))))) + 1)))))) + 1) ≤ Rows.uptoBulk d1 := hB1
  have hbb2 : ((1 + (1 + (1 + (1 + (1 + ((1 + (1 + (1 + (1 + ((x2_.2.2.2.2.2.2.2.2.2.1.size + 1) + ((x2_.2.2.2.2.2.2.2.2.2.2.map fun y_ => (y_.size + 1)).sum + 1)))))) + 1)))))) + 1) ≤ Rows.uptoBulk d2 := hB2
  clear hA0 hval0 hsz0 hsz
  obtain ⟨k, hp⟩ := Pure.WireLays x0_.1 x0_.2.1 x0_.2.2.1 x0_.2.2.2.1 x0_.2.2.2.2.1 x0_.2.2.2.2.2.1 x0_.2.2.2.2.2.2.1 x0_.2.2.2.2.2.2.2.1 x0_.2.2.2.2.2.2.2.2.1 x0_.2.2.2.2.2.2.2.2.2.1 x0_.2.2.2.2.2.2.2.2.2.2.1 x0_.2.2.2.2.2.2.2.2.2.2.2.1 x0_.2.2.2.2.2.2.2.2.2.2.2.2.1 x0_.2.2.2.2.2.2.2.2.2.2.2.2.2 x1_.1 x1_.2.1 x1_.2.2.1 x1_.2.2.2.1 x1_.2.2.2.2.1 x1_.2.2.2.2.2.1 x1_.2.2.2.2.2.2.1 x1_.2.2.2.2.2.2.2.1 x1_.2.2.2.2.2.2.2.2.1 x1_.2.2.2.2.2.2.2.2.2.1 x1_.2.2.2.2.2.2.2.2.2.2 x2_.1 x2_.2.1 x2_.2.2.1 x2_.2.2.2.1 x2_.2.2.2.2.1 x2_.2.2.2.2.2.1 x2_.2.2.2.2.2.2.1 x2_.2.2.2.2.2.2.2.1 x2_.2.2.2.2.2.2.2.2.1 x2_.2.2.2.2.2.2.2.2.2.1 x2_.2.2.2.2.2.2.2.2.2.2 hq0.1 hq0.2.1 hq0.2.2.1 hq0.2.2.2.1 hq0.2.2.2.2.1 hq0.2.2.2.2.2.1 hq0.2.2.2.2.2.2.1 hq0.2.2.2.2.2.2.2.1 hq0.2.2.2.2.2.2.2.2.1 hq0.2.2.2.2.2.2.2.2.2.1 hq0.2.2.2.2.2.2.2.2.2.2.1 hq0.2.2.2.2.2.2.2.2.2.2.2.1 hq0.2.2.2.2.2.2.2.2.2.2.2.2.1 hq0.2.2.2.2.2.2.2.2.2.2.2.2.2 hq1.1 hq1.2.1 hq1.2.2.1 hq1.2.2.2.1 hq1.2.2.2.2.1 hq1.2.2.2.2.2.1 hq1.2.2.2.2.2.2.1 hq1.2.2.2.2.2.2.2.1 hq1.2.2.2.2.2.2.2.2.1 hq1.2.2.2.2.2.2.2.2.2.1 hq1.2.2.2.2.2.2.2.2.2.2 hq2.1 hq2.2.1 hq2.2.2.1 hq2.2.2.2.1 hq2.2.2.2.2.1 hq2.2.2.2.2.2.1 hq2.2.2.2.2.2.2.1 hq2.2.2.2.2.2.2.2.1 hq2.2.2.2.2.2.2.2.2.1 hq2.2.2.2.2.2.2.2.2.2.1 hq2.2.2.2.2.2.2.2.2.2.2 (by omega)
  refine (Go.Proofs.Ytgnmhbkialgeaaa.V.copyholdlaw15_WireLays.calls k x0_.1 x0_.2.1 x0_.2.2.1 x0_.2.2.2.1 x0_.2.2.2.2.1 x0_.2.2.2.2.2.1 x0_.2.2.2.2.2.2.1 x0_.2.2.2.2.2.2.2.1 x0_.2.2.2.2.2.2.2.2.1 x0_.2.2.2.2.2.2.2.2.2.1 x0_.2.2.2.2.2.2.2.2.2.2.1 x0_.2.2.2.2.2.2.2.2.2.2.2.1 x0_.2.2.2.2.2.2.2.2.2.2.2.2.1 x0_.2.2.2.2.2.2.2.2.2.2.2.2.2 x1_.1 x1_.2.1 x1_.2.2.1 x1_.2.2.2.1 x1_.2.2.2.2.1 x1_.2.2.2.2.2.1 x1_.2.2.2.2.2.2.1 x1_.2.2.2.2.2.2.2.1 x1_.2.2.2.2.2.2.2.2.1 x1_.2.2.2.2.2.2.2.2.2.1 A1_10 c1_10 x1_.2.2.2.2.2.2.2.2.2.2 x2_.1 x2_.2.1 x2_.2.2.1 x2_.2.2.2.1 x2_.2.2.2.2.1 x2_.2.2.2.2.2.1 x2_.2.2.2.2.2.2.1 x2_.2.2.2.2.2.2.2.1 x2_.2.2.2.2.2.2.2.2.1 x2_.2.2.2.2.2.2.2.2.2.1 A2_10 c2_10 x2_.2.2.2.2.2.2.2.2.2.2 true W hr1_10 hc1_10 hr2_10 hc2_10 hp).mono ?_
  rintro e W' ⟨rfl, bel0⟩
  have bel : Below W.heap.size W W' := bel0
  exact ⟨_, rfl, _, _, _, [], _, [], hW', trodAll_mk1 (shut_bool Try.underlying4 _), (trodAll_cons_mk (Below.trod laidOut (by kernel_rfl) (of_decide_eq_true (by kernel_rfl)) k0 bel lt0) (trodAll_cons_mk (Below.trod laidOut (by kernel_rfl) (of_decide_eq_true (by kernel_rfl)) k1 bel lt1) (trodAll_cons_mk (Below.trod laidOut (by kernel_rfl) (of_decide_eq_true (by kernel_rfl)) k2 bel lt2) trodAll_mk0))), rfl, bel.frame _, fun h => by cases h⟩
theorem over : Rows.wireLaysUptoRow.holds Try.pinned ((Rows.OpenSpec.upto Rows.wireLaysSpec)) :=
  OpenClaim.holds_of_cond 5 Try.f5 rfl rfl rfl rfl rfl rfl rfl ⟨rfl, rfl, rfl, rfl, rfl⟩ rfl rfl rfl rfl rfl (by kernel_rfl) Try.func5 (by kernel_rfl)
    (of_decide_eq_true (by kernel_rfl)) (by unfold Func.isWrapper; first | (rw [if_pos (by decide +kernel)]; kernel_rfl) | (rw [if_neg (by decide +kernel)]; exact ⟨rfl, rfl⟩))
    (fun os started H enc _ F => lifted os started H enc F)
theorem proved : Rows.WireLaysUptoSaid := over
#print axioms proved
end Go.Proofs.Ytgnmhbkialgeaaa.wireLaysR
namespace Go.Proofs.Ytgnmhbkialgeaaa
/-- The row, under a short name, for the claim. -/
theorem wireLays_holds : Rows.WireLaysUptoSaid := wireLaysR.proved
end Go.Proofs.Ytgnmhbkialgeaaa
