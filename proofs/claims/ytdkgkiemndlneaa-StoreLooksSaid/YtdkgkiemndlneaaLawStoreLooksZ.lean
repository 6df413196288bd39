import Derived.Test.YtdkgkiemndlneaaRows
import Derived.Test.YtdkgkiemndlneaaZCA27
import Derived.Test.YtdkgkiemndlneaaZCA28
import Derived.WalkKit
import Derived.ProofKit
import Derived.OpenShut
import Derived.ShutString
import Derived.ChangeOld
import Derived.Below
import Derived.SizedLaws
set_option linter.unusedVariables false
set_option linter.unusedSimpArgs false
/- The row of StoreLooks: whatever it is given, the law returns true. Its conditions: those of the given statement, and no others. -/
namespace Go.Proofs.Ytdkgkiemndlneaa.storeLooksR
open Go.ChangeShapes Go.WideShapes Go.ChangeAt Go.RowKit Go.Proofs.YtdkgkiemndlneaaW.PrintWords
open Go.ChangeMaps (open_string shut_string)
set_option linter.unusedVariables false
set_option linter.unusedSimpArgs false
theorem own : ownKnob Try.prog.godebug = none := by kernel_rfl
theorem laidOut : laidOutB Try.prog = true := by kernel_rfl
set_option maxRecDepth 100000 in
set_option maxHeartbeats 2000000 in
theorem lifted (os : Os) (started : os.Started) (H : Type) (enc : TypeId × Value → H) :
    ReturnsInHanded {} Try.checked os 4 .any (Rows.storeLooksSpec.pre6 enc Try.prog Try.f4 Rows.storeLooksRow.domain false) (Rows.storeLooksSpec.post enc Try.prog Try.f4 false true false false) := by
  refine returnsInHanded_of_change_sized (C := Try.checked) own started (by kernel_rfl) Try.func4
    (ChangeSpec.witness6 (enc := enc) (C := Try.checked) false ⟨#[], #[.agg #[.slice none 0 0, .slice none 0 0, .int .i64 0], .int .i64 0, .agg #[.slice none 0 0, .slice none 0 0, .int .i64 0]], []⟩ 8 (by kernel_rfl) (by kernel_rfl) (by kernel_rfl) (by kernel_rfl)) ?_
  intro W base args ds gs before hval0 hW hcnd hsz0 _
  have hsz : (DataW.weightsEach Try.prog (Try.f4.params.toList ++ Rows.storeLooksSpec.plain.varTypes Try.prog) (ds ++ gs)).all (· ≤ reachBytes) = true := hsz0
  have hval : ∀ (j : Nat) t v, Try.f4.params[j]? = some t → args[j]? = some v → Value.okWide Try.prog W .any base t v := hval0
  have hW' := hW
  obtain ⟨p, q, hA0, hV, rfl, hfz, hnd⟩ := hW
  have hA : DataW.TrodAll enc Try.prog W 0 (fun _ => true) true Try.f4.params.toList args.toList ds p := hA0
  rw [Try.params4] at hA hval hsz
  obtain ⟨v0, vs0, d0, ds0, p0, q0, hargs, rfl, rfl, h0, r0⟩ := trodAll_cons hA
  obtain ⟨v1, vs1, d1, ds1, p1, q1, rfl, rfl, rfl, h1, r1⟩ := trodAll_cons r0
  obtain ⟨v2, vs2, d2, ds2, p2, q2, rfl, rfl, rfl, h2, r2⟩ := trodAll_cons r1
  obtain ⟨rfl, rfl, rfl⟩ := trodAll_nil r2
  obtain rfl : args = #[v0, v1, v2] := by cases args; simp_all
  obtain ⟨rfl, rfl⟩ := trodVars_none hV
  have k0 := h0
  have lt0 : ∀ x ∈ p0, x.block < W.heap.size := by obtain ⟨m, hm⟩ := k0; exact DataW.trod_lt m _ _ _ hm
  obtain ⟨fuel0, hf0⟩ := h0
  obtain ⟨x0_, hK0, hG0, hB0⟩ := (Opn.Opens.open_ (enc := enc) (w := W) (Opn.opens_struct id id (fun _ => rfl) Try.underlying25 (by kernel_rfl) (Opn.opensF_cons (Opn.opens_slice Try.underlying22 (by kernel_rfl) (Opn.opens_struct (fun x_ : Go.Proofs.Ytdkgkiemndlneaa.Q.S55 => (x_.f0, x_.f1)) (fun p_ => ⟨p_.1, p_.2⟩) (fun _ => rfl) Try.underlying55 (by kernel_rfl) (Opn.opensF_cons (Opn.opens_int (k := .i64) Try.underlying3 (by kernel_rfl)) rfl (Opn.opensF_one (Opn.opens_slice Try.underlying53 (by kernel_rfl) (Opn.opens_struct (fun x_ : Go.Proofs.Ytdkgkiemndlneaa.Q.S58 => (x_.f0, x_.f1, x_.f2)) (fun p_ => ⟨p_.1, p_.2.1, p_.2.2⟩) (fun _ => rfl) Try.underlying58 (by kernel_rfl) (Opn.opensF_cons (Opn.opens_int (k := .i64) Try.underlying3 (by kernel_rfl)) rfl (Opn.opensF_cons (Opn.opens_bool Try.underlying4 (by kernel_rfl)) rfl (Opn.opensF_one (Opn.opens_struct (fun x_ : Go.Proofs.Ytdkgkiemndlneaa.Q.S38 => (x_.f0, x_.f1, x_.f2, x_.f3, x_.f4)) (fun p_ => ⟨p_.1, p_.2.1, p_.2.2.1, p_.2.2.2.1, p_.2.2.2.2⟩) (fun _ => rfl) Try.underlying38 (by kernel_rfl) (Opn.opensF_cons (Opn.opens_int (k := .i64) Try.underlying3 (by kernel_rfl)) rfl (Opn.opensF_cons (Opn.opens_int (k := .i64) Try.underlying3 (by kernel_rfl)) rfl (Opn.opensF_cons (Opn.opens_int (k := .i64) Try.underlying3 (by kernel_rfl)) rfl (Opn.opensF_cons (Opn.opens_string Try.underlying9 (by kernel_rfl)) rfl (Opn.opensF_one (Opn.opens_slice Try.underlying36 (by kernel_rfl) (Opn.opens_struct (fun x_ : Go.Proofs.Ytdkgkiemndlneaa.Q.S91 => (x_.f0, x_.f1)) (fun p_ => ⟨p_.1, p_.2⟩) (fun _ => rfl) Try.underlying91 (by kernel_rfl) (Opn.opensF_cons (Opn.opens_string Try.underlying9 (by kernel_rfl)) rfl (Opn.opensF_one (Opn.opens_int (k := .i64) Try.underlying3 (by kernel_rfl))))))))))))))))))))) rfl (Opn.opensF_cons (Opn.opens_slice Try.underlying23 (by kernel_rfl) (Opn.opens_struct (fun x_ : Go.Proofs.Ytdkgkiemndlneaa.Q.S61 => (x_.f0, x_.f1)) (fun p_ => ⟨p_.1, p_.2⟩) (fun _ => rfl) Try.underlying61 (by kernel_rfl) (Opn.opensF_cons (Opn.opens_int (k := .i64) Try.underlying3 (by kernel_rfl)) rfl (Opn.opensF_one (Opn.opens_int (k := .i64) Try.underlying3 (by kernel_rfl)))))) rfl (Opn.opensF_one (Opn.opens_int (k := .i64) Try.underlying3 (by kernel_rfl))))))) fuel0 _ _ _ hf0
  have hg0 := hG0 (fun n hn => by have h := List.all_eq_true.1 hsz n (DataW.weights_mem_each (j := 0) rfl rfl n hn); exact of_decide_eq_true h)
  obtain ⟨L0, hL0⟩ : ∃ L, L = (v0 : Value).cells.toList := ⟨_, rfl⟩
  rw [← hL0] at hK0
  clear hG0 hf0
  obtain ⟨e0_1, g0_1, rfl, he0_1, hg_0_1⟩ := hK0
  obtain ⟨A0_0, c0_0, rfl, hc0_0, hr0_0⟩ := he0_1
  obtain ⟨e0_2, g0_2, rfl, he0_2, hg_0_2⟩ := hg_0_1
  obtain ⟨A0_1, c0_1, rfl, hc0_1, hr0_1⟩ := he0_2
  obtain rfl := hg_0_2
  obtain ⟨cs0, rfl, _⟩ := okWide_struct Try.underlying25 (hval 0 25 v0 rfl rfl)
  obtain rfl : cs0 = #[.slice A0_0 x0_.1.length c0_0, .slice A0_1 x0_.2.1.length c0_1, .int .i64 x0_.2.2] := by
    have h : [.slice A0_0 x0_.1.length c0_0, .slice A0_1 x0_.2.1.length c0_1, .int .i64 x0_.2.2] = cs0.toList := by first | exact hL0 | (simpa [Value.cells] using hL0)
    cases cs0; simp at h; rw [← h]
  have k1 := h1
  have lt1 : ∀ x ∈ p1, x.block < W.heap.size := by obtain ⟨m, hm⟩ := k1; exact DataW.trod_lt m _ _ _ hm
  obtain ⟨fuel1, hf1⟩ := h1
  obtain ⟨x1_, hK1, hG1, hB1⟩ := (Opn.Opens.open_ (enc := enc) (w := W) (Opn.opens_int (k := .i64) Try.underlying3 (by kernel_rfl))) fuel1 _ _ _ hf1
  have hg1 := hG1 (fun n hn => by have h := List.all_eq_true.1 hsz n (DataW.weights_mem_each (j := 1) rfl rfl n hn); exact of_decide_eq_true h)
  obtain ⟨L1, hL1⟩ : ∃ L, L = (v1 : Value).cells.toList := ⟨_, rfl⟩
  rw [← hL1] at hK1
  clear hG1 hf1
  obtain rfl := hK1
  obtain ⟨b1_, rfl⟩ := okWide_int Try.underlying3 (hval 1 3 v1 rfl rfl)
  obtain rfl : x1_ = b1_ := by simp [Value.cells] at hL1; exact hL1
  have k2 := h2
  have lt2 : ∀ x ∈ p2, x.block < W.heap.size := by obtain ⟨m, hm⟩ := k2; exact DataW.trod_lt m _ _ _ hm
  obtain ⟨fuel2, hf2⟩ := h2
  obtain ⟨x2_, hK2, hG2, hB2⟩ := (Opn.Opens.open_ (enc := enc) (w := W) (Opn.opens_struct id id (fun _ => rfl) Try.underlying25 (by kernel_rfl) (Opn.opensF_cons (Opn.opens_slice Try.underlying22 (by kernel_rfl) (Opn.opens_struct (fun x_ : Go.Proofs.Ytdkgkiemndlneaa.Q.S55 => (x_.f0, x_.f1)) (fun p_ => ⟨p_.1, p_.2⟩) (fun _ => rfl) Try.underlying55 (by kernel_rfl) (Opn.opensF_cons (Opn.opens_int (k := .i64) Try.underlying3 (by kernel_rfl)) rfl (Opn.opensF_one (Opn.opens_slice Try.underlying53 (by kernel_rfl) (Opn.opens_struct (fun x_ : Go.Proofs.Ytdkgkiemndlneaa.Q.S58 => (x_.f0, x_.f1, x_.f2)) (fun p_ => ⟨p_.1, p_.2.1, p_.2.2⟩) (fun _ => rfl) Try.underlying58 (by kernel_rfl) (Opn.opensF_cons (Opn.opens_int (k := .i64) Try.underlying3 (by kernel_rfl)) rfl (Opn.opensF_cons (Opn.opens_bool Try.underlying4 (by kernel_rfl)) rfl (Opn.opensF_one (Opn.opens_struct (fun x_ : Go.Proofs.Ytdkgkiemndlneaa.Q.S38 => (x_.f0, x_.f1, x_.f2, x_.f3, x_.f4)) (fun p_ => ⟨p_.1, p_.2.1, p_.2.2.1, p_.2.2.2.1, p_.2.2.2.2⟩) (fun _ => rfl) Try.underlying38 (by kernel_rfl) (Opn.opensF_cons (Opn.opens_int (k := .i64) Try.underlying3 (by kernel_rfl)) rfl (Opn.opensF_cons (Opn.opens_int (k := .i64) Try.underlying3 (by kernel_rfl)) rfl (Opn.opensF_cons (Opn.opens_int (k := .i64) Try.underlying3 (by kernel_rfl)) rfl (Opn.opensF_cons (Opn.opens_string Try.underlying9 (by kernel_rfl)) rfl (Opn.opensF_one (Opn.opens_slice Try.underlying36 (by kernel_rfl) (Opn.opens_struct (fun x_ : Go.Proofs.Ytdkgkiemndlneaa.Q.S91 => (x_.f0, x_.f1)) (fun p_ => ⟨p_.1, p_.2⟩) (fun _ => rfl) Try.underlying91 (by kernel_rfl) (Opn.opensF_cons (Opn.opens_string Try.underlying9 (by kernel_rfl)) rfl (Opn.opensF_one (Opn.opens_int (k := .i64) Try.underlying3 (by kernel_rfl))))))))))))))))))))) rfl (Opn.opensF_cons (Opn.opens_slice Try.underlying23 (by kernel_rfl) (Opn.opens_struct (fun x_ : Go.Proofs.Ytdkgkiemndlneaa.Q.S61 => (x_.f0, x_.f1)) (fun p_ => ⟨p_.1, p_.2⟩) (fun _ => rfl) Try.underlying61 (by kernel_rfl) (Opn.opensF_cons (Opn.opens_int (k := .i64) Try.underlying3 (by kernel_rfl)) rfl (Opn.opensF_one (Opn.opens_int (k := .i64) Try.underlying3 (by kernel_rfl)))))) rfl (Opn.opensF_one (Opn.opens_int (k := .i64) Try.underlying3 (by kernel_rfl))))))) fuel2 _ _ _ hf2
  have hg2 := hG2 (fun n hn => by have h := List.all_eq_true.1 hsz n (DataW.weights_mem_each (j := 2) rfl rfl n hn); exact of_decide_eq_true h)
  obtain ⟨L2, hL2⟩ : ∃ L, L = (v2 : Value).cells.toList := ⟨_, rfl⟩
  rw [← hL2] at hK2
  clear hG2 hf2
  obtain ⟨e2_1, g2_1, rfl, he2_1, hg_2_1⟩ := hK2
  obtain ⟨A2_0, c2_0, rfl, hc2_0, hr2_0⟩ := he2_1
  obtain ⟨e2_2, g2_2, rfl, he2_2, hg_2_2⟩ := hg_2_1
  obtain ⟨A2_1, c2_1, rfl, hc2_1, hr2_1⟩ := he2_2
  obtain rfl := hg_2_2
  obtain ⟨cs2, rfl, _⟩ := okWide_struct Try.underlying25 (hval 2 25 v2 rfl rfl)
  obtain rfl : cs2 = #[.slice A2_0 x2_.1.length c2_0, .slice A2_1 x2_.2.1.length c2_1, .int .i64 x2_.2.2] := by
    have h : [.slice A2_0 x2_.1.length c2_0, .slice A2_1 x2_.2.1.length c2_1, .int .i64 x2_.2.2] = cs2.toList := by first | exact hL2 | (simpa [Value.cells] using hL2)
    cases cs2; simp at h; rw [← h]
  have hby55 : Try.prog.bytesOf 55 = 32 := by kernel_rfl
  have hby58 : Try.prog.bytesOf 58 = 80 := by kernel_rfl
  have hby61 : Try.prog.bytesOf 61 = 16 := by kernel_rfl
  have hby91 : Try.prog.bytesOf 91 = 24 := by kernel_rfl
  have hq0 : ((x0_.1.length * 32 ≤ 140737488351232 ∧ ∀ y_ ∈ x0_.1, ((Lit.int .i64 y_.f0).wf = true ∧ (y_.f1.length * 80 ≤ 140737488351232 ∧ ∀ y1_ ∈ y_.f1, ((Lit.int .i64 y1_.f0).wf = true ∧ True ∧ ((Lit.int .i64 y1_.f2.f0).wf = true ∧ (Lit.int .i64 y1_.f2.f1).wf = true ∧ (Lit.int .i64 y1_.f2.f2).wf = true ∧ y1_.f2.f3.size ≤ 140737488351232 ∧ (y1_.f2.f4.length * 24 ≤ 140737488351232 ∧ ∀ y2_ ∈ y1_.f2.f4, (y2_.f0.size ≤ 140737488351232 ∧ (Lit.int .i64 y2_.f1).wf = true))))))) ∧ (x0_.2.1.length * 16 ≤ 140737488351232 ∧ ∀ y_ ∈ x0_.2.1, ((Lit.int .i64 y_.f0).wf = true ∧ (Lit.int .i64 y_.f1).wf = true)) ∧ (Lit.int .i64 x0_.2.2).wf = true) := by have h := hg0; simp only [hby55, hby58, hby61, hby91] at h; exact h
  have hq1 : (Lit.int .i64 x1_).wf = true := by have h := hg1; exact h
  have hq2 : ((x2_.1.length * 32 ≤ 140737488351232 ∧ ∀ y_ ∈ x2_.1, ((Lit.int .i64 y_.f0).wf = true ∧ (y_.f1.length * 80 ≤ 140737488351232 ∧ ∀ y1_ ∈ y_.f1, ((Lit.int .i64 y1_.f0).wf = true ∧ True ∧ ((Lit.int .i64 y1_.f2.f0).wf = true ∧ (Lit.int .i64 y1_.f2.f1).wf = true ∧ (Lit.int .i64 y1_.f2.f2).wf = true ∧ y1_.f2.f3.size ≤ 140737488351232 ∧ (y1_.f2.f4.length * 24 ≤ 140737488351232 ∧ ∀ y2_ ∈ y1_.f2.f4, (y2_.f0.size ≤ 140737488351232 ∧ (Lit.int .i64 y2_.f1).wf = true))))))) ∧ (x2_.2.1.length * 16 ≤ 140737488351232 ∧ ∀ y_ ∈ x2_.2.1, ((Lit.int .i64 y_.f0).wf = true ∧ (Lit.int .i64 y_.f1).wf = true)) ∧ (Lit.int .i64 x2_.2.2).wf = true) := by have h := hg2; simp only [hby55, hby58, hby61, hby91] at h; exact h
  clear hA0 hval0 hsz0 hsz
  obtain ⟨k, hp⟩ := Pure.StoreLooks x0_.1 x0_.2.1 x0_.2.2 x1_ x2_.1 x2_.2.1 x2_.2.2 hq0.1 hq0.2.1 hq0.2.2 hq1 hq2.1 hq2.2.1 hq2.2.2
  refine (Go.Proofs.Ytdkgkiemndlneaa.Q.copyholdlaw12_StoreLooks.calls k A0_0 c0_0 x0_.1 A0_1 c0_1 x0_.2.1 x0_.2.2 x1_ A2_0 c2_0 x2_.1 A2_1 c2_1 x2_.2.1 x2_.2.2 true W hr0_0 hc0_0 hr0_1 hc0_1 hr2_0 hc2_0 hr2_1 hc2_1 hp).mono ?_
  rintro e W' ⟨rfl, bel0⟩
  have bel : Below W.heap.size W W' := bel0
  exact ⟨_, rfl, _, _, _, [], _, [], hW', trodAll_mk1 (shut_bool Try.underlying4 _), (trodAll_cons_mk (Below.trod laidOut (by kernel_rfl) (of_decide_eq_true (by kernel_rfl)) k0 bel lt0) (trodAll_cons_mk (Below.trod laidOut (by kernel_rfl) (of_decide_eq_true (by kernel_rfl)) k1 bel lt1) (trodAll_cons_mk (Below.trod laidOut (by kernel_rfl) (of_decide_eq_true (by kernel_rfl)) k2 bel lt2) trodAll_mk0))), rfl, bel.frame _, fun h => by cases h⟩
theorem over : Rows.storeLooksRow.holds Try.pinned (OpenSpec.ofChange Rows.storeLooksSpec) :=
  OpenClaim.holds_of_wide 4 Try.f4 rfl rfl rfl rfl rfl rfl rfl ⟨rfl, rfl, rfl, rfl, rfl⟩ rfl rfl rfl rfl rfl (by kernel_rfl) Try.func4 (by kernel_rfl)
    (of_decide_eq_true (by kernel_rfl)) (by unfold Func.isWrapper; first | (rw [if_pos (by decide +kernel)]; kernel_rfl) | (rw [if_neg (by decide +kernel)]; exact ⟨rfl, rfl⟩))
    (fun os started H enc _ => lifted os started H enc)
theorem proved : Rows.StoreLooksSaid := over
#print axioms proved
end Go.Proofs.Ytdkgkiemndlneaa.storeLooksR
namespace Go.Proofs.Ytdkgkiemndlneaa
/-- The row, under a short name, for the claim. -/
theorem storeLooks_holds : Rows.StoreLooksSaid := storeLooksR.proved
end Go.Proofs.Ytdkgkiemndlneaa
