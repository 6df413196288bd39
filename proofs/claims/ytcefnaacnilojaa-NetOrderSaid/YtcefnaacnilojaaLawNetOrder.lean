/- The row of NetOrder: whatever it is given, the law returns true. Its conditions: those of the given statement, and no others. -/
import Derived.Test.YtcefnaacnilojaaRows
import Derived.Test.YtcefnaacnilojaaQ2
import Derived.Test.YtcefnaacnilojaaOpens
import Derived.Test.YtcefnaacnilojaaPureNetOrder
import Derived.WalkKit
import Derived.ProofKit
import Derived.OpenShut
import Derived.ShutString
import Derived.ChangeOld
import Derived.Below
import Derived.SizedLaws
namespace Go.Proofs.Ytcefnaacnilojaa.netOrderR
open Go.ChangeShapes Go.WideShapes Go.ChangeAt Go.RowKit Go.Proofs.YtcefnaacnilojaaW.PrintWords
open Go.ChangeMaps (open_string shut_string)
set_option linter.unusedVariables false
set_option linter.unusedSimpArgs false
theorem own : ownKnob Try.prog.godebug = none := by kernel_rfl
theorem laidOut : laidOutB Try.prog = true := by kernel_rfl
set_option maxRecDepth 100000 in
set_option maxHeartbeats 2000000 in
theorem lifted (os : Os) (started : os.Started) (H : Type) (enc : TypeId × Value → H) :
    ReturnsInHanded {} Try.checked os 3 .any (Rows.netOrderSpec.pre6 enc Try.prog Try.f3 Rows.netOrderRow.domain false) (Rows.netOrderSpec.post enc Try.prog Try.f3 false true false false) := by
  refine returnsInHanded_of_change_sized (C := Try.checked) own started (by kernel_rfl) Try.func3
    (ChangeSpec.witness6 (enc := enc) (C := Try.checked) false ⟨#[], #[.agg #[.slice none 0 0, .slice none 0 0], .bool false], []⟩ 8 (by kernel_rfl) (by kernel_rfl) (by kernel_rfl) (by kernel_rfl)) ?_
  intro W base args ds gs before hval0 hW hcnd hsz0 _
  have hsz : (DataW.weightsEach Try.prog (Try.f3.params.toList ++ Rows.netOrderSpec.plain.varTypes Try.prog) (ds ++ gs)).all (· ≤ reachBytes) = true := hsz0
  have hval : ∀ (j : Nat) t v, Try.f3.params[j]? = some t → args[j]? = some v → Value.okWide Try.prog W .any base t v := hval0
  have hW' := hW
  obtain ⟨p, q, hA0, hV, rfl, hfz, hnd⟩ := hW
  have hA : DataW.TrodAll enc Try.prog W 0 (fun _ => true) true Try.f3.params.toList args.toList ds p := hA0
  rw [Try.params3] at hA hval hsz
  obtain ⟨v0, vs0, d0, ds0, p0, q0, hargs, rfl, rfl, h0, r0⟩ := trodAll_cons hA
  obtain ⟨v1, vs1, d1, ds1, p1, q1, rfl, rfl, rfl, h1, r1⟩ := trodAll_cons r0
  obtain ⟨rfl, rfl, rfl⟩ := trodAll_nil r1
  obtain rfl : args = #[v0, v1] := by cases args; simp_all
  obtain ⟨rfl, rfl⟩ := trodVars_none hV
  have k0 := h0
  have lt0 : ∀ x ∈ p0, x.block < W.heap.size := by obtain ⟨m, hm⟩ := k0; exact DataW.trod_lt m _ _ _ hm
  obtain ⟨fuel0, hf0⟩ := h0
  obtain ⟨x0_, hK0, hG0, hB0⟩ := (Opn.Opens.open_ (enc := enc) (w := W) (Opn.opens_struct id id (fun _ => rfl) Try.underlying24 (by kernel_rfl) (Opn.opensF_cons (Opn.opens_slice Try.underlying22 (by kernel_rfl) (Opn.opens_string Try.underlying9 (by kernel_rfl))) rfl (Opn.opensF_one (Opn.opens_slice Try.underlying22 (by kernel_rfl) (Opn.opens_string Try.underlying9 (by kernel_rfl))))))) fuel0 _ _ _ hf0
  have hg0 := hG0 (fun n hn => by have h := List.all_eq_true.1 hsz n (DataW.weights_mem_each (j := 0) rfl rfl n hn); exact of_decide_eq_true h)
  obtain ⟨L0, hL0⟩ : ∃ L, L = (v0 : Value).cells.toList := ⟨_, rfl⟩
  rw [← hL0] at hK0
  clear hG0 hf0
  obtain ⟨e0_1, g0_1, rfl, he0_1, hg_0_1⟩ := hK0
  obtain ⟨A0_0, c0_0, rfl, hc0_0, hr0_0⟩ := he0_1
  obtain ⟨A0_1, c0_1, rfl, hc0_1, hr0_1⟩ := hg_0_1
  obtain ⟨cs0, rfl, _⟩ := okWide_struct Try.underlying24 (hval 0 24 v0 rfl rfl)
  obtain rfl : cs0 = #[.slice A0_0 x0_.1.length c0_0, .slice A0_1 x0_.2.length c0_1] := by
    have h : [.slice A0_0 x0_.1.length c0_0, .slice A0_1 x0_.2.length c0_1] = cs0.toList := by first | exact hL0 | (simpa [Value.cells] using hL0)
    cases cs0; simp at h; rw [← h]
  have k1 := h1
  have lt1 : ∀ x ∈ p1, x.block < W.heap.size := by obtain ⟨m, hm⟩ := k1; exact DataW.trod_lt m _ _ _ hm
  obtain ⟨fuel1, hf1⟩ := h1
  obtain ⟨x1_, hK1, hG1, hB1⟩ := (Opn.Opens.open_ (enc := enc) (w := W) (Opn.opens_bool Try.underlying4 (by kernel_rfl))) fuel1 _ _ _ hf1
  have hg1 := hG1 (fun n hn => by have h := List.all_eq_true.1 hsz n (DataW.weights_mem_each (j := 1) rfl rfl n hn); exact of_decide_eq_true h)
  obtain ⟨L1, hL1⟩ : ∃ L, L = (v1 : Value).cells.toList := ⟨_, rfl⟩
  rw [← hL1] at hK1
  clear hG1 hf1
  obtain rfl := hK1
  obtain ⟨b1_, rfl⟩ := okWide_bool Try.underlying4 (hval 1 4 v1 rfl rfl)
  obtain rfl : x1_ = b1_ := by simp [Value.cells] at hL1; exact hL1
  have hby9 : Try.prog.bytesOf 9 = 16 := by kernel_rfl
  have hq0 : ((x0_.1.length * 16 ≤ 140737488351232 ∧ ∀ y_ ∈ x0_.1, y_.size ≤ 140737488351232) ∧ (x0_.2.length * 16 ≤ 140737488351232 ∧ ∀ y_ ∈ x0_.2, y_.size ≤ 140737488351232)) := by have h := hg0; simp only [hby9] at h; exact h
  have hq1 : True := by have h := hg1; exact h
  clear hA0 hval0 hsz0 hsz
  obtain ⟨k, hp⟩ := Pure.NetOrder x0_.1 x0_.2 x1_ hq0.1 hq0.2
  refine (Go.Proofs.Ytcefnaacnilojaa.Q.copyholdlaw19_NetOrder.calls k (fun k_ => k_ < W.heap.size) A0_0 c0_0 x0_.1 (fun k_ => k_ < W.heap.size) A0_1 c0_1 x0_.2 x1_ true W (by refine Kd.V_mk hc0_0 (Kd.C_F ?_ hr0_0); first | exact Kd.heap_string | exact Kd.heap_bool | exact Kd.heap_int _) (by refine Kd.V_mk hc0_1 (Kd.C_F ?_ hr0_1); first | exact Kd.heap_string | exact Kd.heap_bool | exact Kd.heap_int _) hp).mono ?_
  rintro e W' ⟨rfl, bel0⟩
  have bel : Below W.heap.size W W' := bel0
  exact ⟨_, rfl, _, _, _, [], _, [], hW', trodAll_mk1 (shut_bool Try.underlying4 _), (trodAll_cons_mk (Below.trod laidOut (by kernel_rfl) (of_decide_eq_true (by kernel_rfl)) k0 bel lt0) (trodAll_cons_mk (Below.trod laidOut (by kernel_rfl) (of_decide_eq_true (by kernel_rfl)) k1 bel lt1) trodAll_mk0)), rfl, bel.frame _, fun h => by cases h⟩
theorem over : Rows.netOrderRow.holds Try.pinned (OpenSpec.ofChange Rows.netOrderSpec) :=
  OpenClaim.holds_of_wide 3 Try.f3 rfl rfl rfl rfl rfl rfl rfl ⟨rfl, rfl, rfl, rfl, rfl⟩ rfl rfl rfl rfl rfl (by kernel_rfl) Try.func3 (by kernel_rfl)
    (of_decide_eq_true (by kernel_rfl)) (by unfold Func.isWrapper; first | (rw [if_pos (by decide +kernel)]; kernel_rfl) | (rw [if_neg (by decide +kernel)]; exact ⟨rfl, rfl⟩))
    (fun os started H enc _ => lifted os started H enc)
theorem proved : Rows.NetOrderSaid := over
#print axioms proved
end Go.Proofs.Ytcefnaacnilojaa.netOrderR
namespace Go.Proofs.Ytcefnaacnilojaa
/-- The row, under a short name, for the claim. -/
theorem netOrder_holds : Rows.NetOrderSaid := netOrderR.proved
end Go.Proofs.Ytcefnaacnilojaa
