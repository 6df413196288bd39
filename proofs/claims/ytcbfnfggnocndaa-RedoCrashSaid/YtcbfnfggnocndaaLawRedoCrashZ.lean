import Derived.Test.YtcbfnfggnocndaaRows
import Derived.Test.YtcbfnfggnocndaaZRedoCr36
import Derived.Test.YtcbfnfggnocndaaZRedoCr37
import Derived.WalkKit
import Derived.ProofKit
import Derived.OpenShut
import Derived.ShutString
import Derived.ChangeOld
import Derived.Below
import Derived.SizedLaws
set_option linter.unusedVariables false
set_option linter.unusedSimpArgs false
/- The row of RedoCrash: whatever it is given, the law returns true. Its conditions: those of the given statement, and no others. -/
namespace Go.Proofs.Ytcbfnfggnocndaa.redoCrashR
open Go.ChangeShapes Go.WideShapes Go.ChangeAt Go.RowKit Go.Proofs.YtcbfnfggnocndaaW.PrintWords
open Go.ChangeMaps (open_string shut_string)
set_option linter.unusedVariables false
set_option linter.unusedSimpArgs false
theorem own : ownKnob Try.prog.godebug = none := by kernel_rfl
theorem laidOut : laidOutB Try.prog = true := by kernel_rfl
set_option maxRecDepth 100000 in
set_option maxHeartbeats 2000000 in
theorem lifted (os : Os) (started : os.Started) (H : Type) (enc : TypeId × Value → H) :
    ReturnsInHanded {} Try.checked os 6 .any (Rows.redoCrashSpec.pre6 enc Try.prog Try.f6 Rows.redoCrashRow.domain false) (Rows.redoCrashSpec.post enc Try.prog Try.f6 false true false false) := by
  refine returnsInHanded_of_change_sized (C := Try.checked) own started (by kernel_rfl) Try.func6
    (ChangeSpec.witness6 (enc := enc) (C := Try.checked) false ⟨#[], #[.agg #[.slice none 0 0, .slice none 0 0, .bool false, .int .i64 0, .int .i64 0, .int .i64 0, .int .i64 0, .int .u64 0, .int .i64 0, .slice none 0 0, .slice none 0 0]], []⟩ 8 (by kernel_rfl) (by kernel_rfl) (by kernel_rfl) (by kernel_rfl)) ?_
  intro W base args ds gs before hval0 hW hcnd hsz0 _
  have hsz : (DataW.weightsEach Try.prog (Try.f6.params.toList ++ Rows.redoCrashSpec.plain.varTypes Try.prog) (ds ++ gs)).all (· ≤ reachBytes) = true := hsz0
  have hval : ∀ (j : Nat) t v, Try.f6.params[j]? = some t → args[j]? = some v → Value.okWide Try.prog W .any base t v := hval0
  have hW' := hW
  obtain ⟨p, q, hA0, hV, rfl, hfz, hnd⟩ := hW
  have hA : DataW.TrodAll enc Try.prog W 0 (fun _ => true) true Try.f6.params.toList args.toList ds p := hA0
  rw [Try.params6] at hA hval hsz
  obtain ⟨v0, vs0, d0, ds0, p0, q0, hargs, rfl, rfl, h0, r0⟩ := trodAll_cons hA
  obtain ⟨rfl, rfl, rfl⟩ := trodAll_nil r0
  obtain rfl : args = #[v0] := by cases args; simp_all
  obtain ⟨rfl, rfl⟩ := trodVars_none hV
  have k0 := h0
  have lt0 : ∀ x ∈ p0, x.block < W.heap.size := by obtain ⟨m, hm⟩ := k0; exact DataW.trod_lt m _ _ _ hm
  obtain ⟨fuel0, hf0⟩ := h0
  obtain ⟨x0_, hK0, hG0, hB0⟩ := (Opn.Opens.open_ (enc := enc) (w := W) (Opn.opens_struct id id (fun _ => rfl) Try.underlying55 (by kernel_rfl) (Opn.opensF_cons (Opn.opens_struct id id (fun _ => rfl) Try.underlying25 (by kernel_rfl) (Opn.opensF_cons (Opn.opens_slice Try.underlying22 (by kernel_rfl) (Opn.opens_string Try.underlying9 (by kernel_rfl))) rfl (Opn.opensF_cons (Opn.opens_slice Try.underlying23 (by kernel_rfl) (Opn.opens_struct (fun x_ : Go.Proofs.Ytcbfnfggnocndaa.Q.S88 => (x_.f0, x_.f1)) (fun p_ => ⟨p_.1, p_.2⟩) (fun _ => rfl) Try.underlying88 (by kernel_rfl) (Opn.opensF_cons (Opn.opens_int (k := .i64) Try.underlying3 (by kernel_rfl)) rfl (Opn.opensF_one (Opn.opens_string Try.underlying9 (by kernel_rfl)))))) rfl (Opn.opensF_one (Opn.opens_bool Try.underlying4 (by kernel_rfl)))))) rfl (Opn.opensF_cons (Opn.opens_struct id id (fun _ => rfl) Try.underlying27 (by kernel_rfl) (Opn.opensF_cons (Opn.opens_int (k := .i64) Try.underlying3 (by kernel_rfl)) rfl (Opn.opensF_one (Opn.opens_int (k := .i64) Try.underlying3 (by kernel_rfl))))) rfl (Opn.opensF_cons (Opn.opens_struct id id (fun _ => rfl) Try.underlying30 (by kernel_rfl) (Opn.opensF_cons (Opn.opens_int (k := .i64) Try.underlying3 (by kernel_rfl)) rfl (Opn.opensF_cons (Opn.opens_int (k := .i64) Try.underlying3 (by kernel_rfl)) rfl (Opn.opensF_cons (Opn.opens_int (k := .u64) Try.underlying28 (by kernel_rfl)) rfl (Opn.opensF_one (Opn.opens_int (k := .i64) Try.underlying3 (by kernel_rfl))))))) rfl (Opn.opensF_cons (Opn.opens_slice Try.underlying22 (by kernel_rfl) (Opn.opens_string Try.underlying9 (by kernel_rfl))) rfl (Opn.opensF_one (Opn.opens_slice Try.underlying53 (by kernel_rfl) (Opn.opens_bool Try.underlying4 (by kernel_rfl)))))))))) fuel0 _ _ _ hf0
  have hg0 := hG0 (fun n hn => by have h := List.all_eq_true.1 hsz n (DataW.weights_mem_each (j := 0) rfl rfl n hn); exact of_decide_eq_true h)
  obtain ⟨L0, hL0⟩ : ∃ L, L = (v0 : Value).cells.toList := ⟨_, rfl⟩
  rw [← hL0] at hK0
  clear hG0 hf0
  obtain ⟨e0_1, g0_1, rfl, he0_1, hg_0_1⟩ := hK0
  obtain ⟨e0_2, g0_2, rfl, he0_2, hg_0_2⟩ := he0_1
  obtain ⟨A0_0, c0_0, rfl, hc0_0, hr0_0⟩ := he0_2
  obtain ⟨e0_3, g0_3, rfl, he0_3, hg_0_3⟩ := hg_0_2
  obtain ⟨A0_1, c0_1, rfl, hc0_1, hr0_1⟩ := he0_3
  obtain rfl := hg_0_3
  obtain ⟨e0_4, g0_4, rfl, he0_4, hg_0_4⟩ := hg_0_1
  obtain ⟨e0_5, g0_5, rfl, he0_5, hg_0_5⟩ := he0_4
  obtain rfl := he0_5
  obtain rfl := hg_0_5
  obtain ⟨e0_6, g0_6, rfl, he0_6, hg_0_6⟩ := hg_0_4
  obtain ⟨e0_7, g0_7, rfl, he0_7, hg_0_7⟩ := he0_6
  obtain rfl := he0_7
  obtain ⟨e0_8, g0_8, rfl, he0_8, hg_0_8⟩ := hg_0_7
  obtain rfl := he0_8
  obtain ⟨e0_9, g0_9, rfl, he0_9, hg_0_9⟩ := hg_0_8
  obtain rfl := he0_9
  obtain rfl := hg_0_9
  obtain ⟨e0_10, g0_10, rfl, he0_10, hg_0_10⟩ := hg_0_6
  obtain ⟨A0_9, c0_9, rfl, hc0_9, hr0_9⟩ := he0_10
  obtain ⟨A0_10, c0_10, rfl, hc0_10, hr0_10⟩ := hg_0_10
  obtain ⟨cs0, rfl, _⟩ := okWide_struct Try.underlying55 (hval 0 55 v0 rfl rfl)
  obtain rfl : cs0 = #[.slice A0_0 x0_.1.1.length c0_0, .slice A0_1 x0_.1.2.1.length c0_1, .bool x0_.1.2.2, .int .i64 x0_.2.1.1, .int .i64 x0_.2.1.2, .int .i64 x0_.2.2.1.1, .int .i64 x0_.2.2.1.2.1, .int .u64 x0_.2.2.1.2.2.1, .int .i64 x0_.2.2.1.2.2.2, .slice A0_9 x0_.2.2.2.1.length c0_9, .slice A0_10 x0_.2.2.2.2.length c0_10] := by
    have h : [.slice A0_0 x0_.1.1.length c0_0, .slice A0_1 x0_.1.2.1.length c0_1, .bool x0_.1.2.2, .int .i64 x0_.2.1.1, .int .i64 x0_.2.1.2, .int .i64 x0_.2.2.1.1, .int .i64 x0_.2.2.1.2.1, .int .u64 x0_.2.2.1.2.2.1, .int .i64 x0_.2.2.1.2.2.2, .slice A0_9 x0_.2.2.2.1.length c0_9, .slice A0_10 x0_.2.2.2.2.length c0_10] = cs0.toList := by first | exact hL0 | (simpa [Value.cells] using hL0)
    cases cs0; simp at h; rw [← h]
  have hby4 : Try.prog.bytesOf 4 = 1 := by kernel_rfl
  have hby9 : Try.prog.bytesOf 9 = 16 := by kernel_rfl
  have hby88 : Try.prog.bytesOf 88 = 24 := by kernel_rfl
  have hq0 : (((x0_.1.1.length * 16 ≤ 140737488351232 ∧ ∀ y_ ∈ x0_.1.1, y_.size ≤ 140737488351232) ∧ (x0_.1.2.1.length * 24 ≤ 140737488351232 ∧ ∀ y_ ∈ x0_.1.2.1, ((Lit.int .i64 y_.f0).wf = true ∧ y_.f1.size ≤ 140737488351232)) ∧ True) ∧ ((Lit.int .i64 x0_.2.1.1).wf = true ∧ (Lit.int .i64 x0_.2.1.2).wf = true) ∧ ((Lit.int .i64 x0_.2.2.1.1).wf = true ∧ (Lit.int .i64 x0_.2.2.1.2.1).wf = true ∧ (Lit.int .u64 x0_.2.2.1.2.2.1).wf = true ∧ (Lit.int .i64 x0_.2.2.1.2.2.2).wf = true) ∧ (x0_.2.2.2.1.length * 16 ≤ 140737488351232 ∧ ∀ y_ ∈ x0_.2.2.2.1, y_.size ≤ 140737488351232) ∧ (x0_.2.2.2.2.length * 1 ≤ 140737488351232 ∧ ∀ y_ ∈ x0_.2.2.2.2, True)) := by have h := hg0; simp only [hby4, hby9, hby88] at h; exact h
  clear hA0 hval0 hsz0 hsz
  obtain ⟨k, hp⟩ := Pure.RedoCrash x0_.1.1 x0_.1.2.1 x0_.1.2.2 x0_.2.1.1 x0_.2.1.2 x0_.2.2.1.1 x0_.2.2.1.2.1 x0_.2.2.1.2.2.1 x0_.2.2.1.2.2.2 x0_.2.2.2.1 x0_.2.2.2.2 hq0.1.1 hq0.1.2.1 hq0.2.1.1 hq0.2.1.2 hq0.2.2.1.1 hq0.2.2.1.2.1 hq0.2.2.1.2.2.1 hq0.2.2.1.2.2.2 hq0.2.2.2.1 hq0.2.2.2.2
  refine (Go.Proofs.Ytcbfnfggnocndaa.Q.copyholdlaw05_RedoCrash.calls k A0_0 c0_0 x0_.1.1 A0_1 c0_1 x0_.1.2.1 x0_.1.2.2 x0_.2.1.1 x0_.2.1.2 x0_.2.2.1.1 x0_.2.2.1.2.1 x0_.2.2.1.2.2.1 x0_.2.2.1.2.2.2 A0_9 c0_9 x0_.2.2.2.1 A0_10 c0_10 x0_.2.2.2.2 true W hr0_0 hc0_0 hr0_1 hc0_1 hr0_9 hc0_9 hr0_10 hc0_10 hp).mono ?_
  rintro e W' ⟨rfl, bel0⟩
  have bel : Below W.heap.size W W' := bel0
  exact ⟨_, rfl, _, _, _, [], _, [], hW', trodAll_mk1 (shut_bool Try.underlying4 _), (trodAll_cons_mk (Below.trod laidOut (by kernel_rfl) (of_decide_eq_true (by kernel_rfl)) k0 bel lt0) trodAll_mk0), rfl, bel.frame _, fun h => by cases h⟩
theorem over : Rows.redoCrashRow.holds Try.pinned (OpenSpec.ofChange Rows.redoCrashSpec) :=
  OpenClaim.holds_of_wide 6 Try.f6 rfl rfl rfl rfl rfl rfl rfl ⟨rfl, rfl, rfl, rfl, rfl⟩ rfl rfl rfl rfl rfl (by kernel_rfl) Try.func6 (by kernel_rfl)
    (of_decide_eq_true (by kernel_rfl)) (by unfold Func.isWrapper; first | (rw [if_pos (by decide +kernel)]; kernel_rfl) | (rw [if_neg (by decide +kernel)]; exact ⟨rfl, rfl⟩))
    (fun os started H enc _ => lifted os started H enc)
theorem proved : Rows.RedoCrashSaid := over
#print axioms proved
end Go.Proofs.Ytcbfnfggnocndaa.redoCrashR
namespace Go.Proofs.Ytcbfnfggnocndaa
/-- The row, under a short name, for the claim. -/
theorem redoCrash_holds : Rows.RedoCrashSaid := redoCrashR.proved
end Go.Proofs.Ytcbfnfggnocndaa
