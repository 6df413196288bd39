import Derived.Test.YtcbfnfggnocndaaZRedoCr32
import Derived.Test.YtcbfnfggnocndaaZRedoCr22
import Derived.Test.YtcbfnfggnocndaaZRedoCrA
set_option linter.unusedVariables false
set_option linter.unusedSimpArgs false
namespace Go.Proofs.Ytcbfnfggnocndaa.Q
open Go.RowKit Go.Proofs.YtcbfnfggnocndaaW.PrintWords Go.Proofs.YtcbfnfggnocndaaW.PrintLast Go.Proofs.YtcbfnfggnocndaaW.PrintMore
attribute [local go_sem] max2_int min2_int max_two min_two max_three min_three max_four min_four   -- for this text's walks alone
attribute [local go_sem high] Go.Proofs.Ytcbfnfggnocndaa.px_xor_u8 Go.Proofs.Ytcbfnfggnocndaa.px_xor_u16 Go.Proofs.Ytcbfnfggnocndaa.px_xor_u32 Go.Proofs.Ytcbfnfggnocndaa.px_xor_u64
def copyholdref04_Flush.f (l0_0 : List ByteArray) (l0_1 : List (S88)) (a0_2 : Bool) : Option (List ByteArray × (List (S88)) × Bool × Int) := if a0_2 = true then (some (l0_0, l0_1, a0_2, 19)) else ((copyholdref04_Image.f l0_0 l0_1 a0_2).bind fun t235 => (some (t235, ([] : List (S88)), false, 0)))
set_option maxHeartbeats 8000000 in
set_option maxRecDepth 100000 in
theorem copyholdref04_Flush.calls (P0_0_ : Nat → Prop) (A0_0 : Option Addr) (c0_0 : Nat) (l0_0 : List ByteArray) (P0_1_ : Nat → Prop) (A0_1 : Option Addr) (c0_1 : Nat) (l0_1 : List (S88)) (a0_2 : Bool) (r1 : List ByteArray) (r2 : List (S88)) (r3 : Bool) (r4 : Int) (w : World) (hs0_0 : Kd.V Kd.string 9 w w.heap.size (fun k_ => P0_0_ k_) (.slice A0_0 l0_0.length c0_0) l0_0) (hs0_1 : Kd.V k88 88 w w.heap.size (fun k_ => P0_1_ k_) (.slice A0_1 l0_1.length c0_1) l0_1) (h : copyholdref04_Flush.f l0_0 l0_1 a0_2 = some (r1, r2, r3, r4)) :
  Calls Try.prog 23 #[.agg #[.slice A0_0 l0_0.length c0_0, .slice A0_1 l0_1.length c0_1, .bool a0_2]] w fun e w' => ∃ v0_ v1_ : Value, e = .returned (.tuple #[.agg #[v0_, v1_, .bool r3], .int .i64 r4]) ∧ Kd.V Kd.string 9 w' w.heap.size (fun k_ => ((P0_0_ k_ ∨ P0_1_ k_) ∨ w.heap.size ≤ k_)) v0_ r1 ∧ Kd.V k88 88 w' w.heap.size (fun k_ => ((P0_0_ k_ ∨ P0_1_ k_) ∨ w.heap.size ≤ k_)) v1_ r2 ∧ Below w.heap.size w w' := by
 have hu25 := Try.underlying25
 have HO0_0 := zqj (show Kd.V Kd.string 9 w w.heap.size (fun k_ => ((P0_0_ k_ ∨ P0_1_ k_) ∨ w.heap.size ≤ k_)) (.slice A0_0 l0_0.length c0_0) l0_0 from Kd.V_mono hs0_0 (fun k_ hk => .inl (.inl hk)))
 have HO0_1 := zqj (show Kd.V k88 88 w w.heap.size (fun k_ => ((P0_0_ k_ ∨ P0_1_ k_) ∨ w.heap.size ≤ k_)) (.slice A0_1 l0_1.length c0_1) l0_1 from Kd.V_mono hs0_1 (fun k_ hk => .inl (.inr hk)))
 have HB := zqj (Below.refl w.heap.size w)
 have H : (if a0_2 = true then (some (l0_0, l0_1, a0_2, 19)) else ((copyholdref04_Image.f l0_0 l0_1 a0_2).bind fun t235 => (some (t235, ([] : List (S88)), false, 0)))) = some (r1, r2, r3, r4) := h
 clear h
 by_cases c2 : a0_2 = true
 ·subst c2
  have H1 : (some (l0_0, l0_1, true, 19)) = some (r1, r2, r3, r4) := by rw [if_pos rfl] at H; exact H
  clear H
  have H := H1
  clear H1
  simp only [Option.some.injEq, Prod.mk.injEq] at H
  obtain ⟨rfl, rfl, rfl, rfl⟩ := H
  go_enter Try.func23, Try.ntmps23
  go_wp2_with (first | ((with_reducible refine gate_dst (N := 1) rfl ?_); refine box_event ?hg (N := 1) ?hd (cs := #[.slice A0_0 l0_0.length c0_0, .slice A0_1 l0_1.length c0_1, .bool true]) (t := 25) ?hr ?_; (case hd => rfl); (case hg => rfl); (case hr => first | (go_simp; done) | (go_simp; rfl)); intro gb233 hg w3 hbox hb; have n0_ := zqj (Kd.V_below (Kd.V_elderB (by (with_reducible repeat (first | apply Kd.V_alloc | apply Kd.V_drewN | apply Kd.V_drew)); exact HO0_0.out) gb233 (Nat.le_of_eq hg.symm)) hb); have n1_ := zqj (Kd.V_below (Kd.V_elderB (by (with_reducible repeat (first | apply Kd.V_alloc | apply Kd.V_drewN | apply Kd.V_drew)); exact HO0_1.out) gb233 (Nat.le_of_eq hg.symm)) hb); have n2_ := zqj (below_step (by repeat (first | (with_reducible first | exact HB.out | apply zqg | apply zqe | apply zqf) | exact HB.out)) hb); have n3_ := zqj (hbox); have n4_ := zqj ((by rw [hg]; exact (below_size (by repeat (first | (with_reducible first | exact HB.out | apply zqg | apply zqe | apply zqf) | exact HB.out))) : w.heap.size ≤ gb233)); have n5_ := zqj ((by rw [hg]; exact (below_size (by repeat (first | (with_reducible first | exact HB.out | apply zqg | apply zqe | apply zqf) | exact HB.out))) : w.heap.size ≤ gb233)); clear HO0_0; clear HO0_1; clear HB; have HO0_0 := n0_; have HO0_1 := n1_; have HB := n2_; have BK233 := n3_; have GW233 := n4_; have GE233 := n5_; clear n0_ n1_ n2_ n3_ n4_ n5_; clear hb hbox hg) | ((with_reducible refine gate_dst (N := 2) rfl ?_); refine box_event ?hg (N := 2) ?hd (cs := #[.slice none 0 0, .slice none 0 0, .bool false]) (t := 25) ?hr ?_; (case hd => rfl); (case hg => rfl); (case hr => first | (go_simp; done) | (go_simp; rfl)); intro gb234 hg w4 hbox hb; have n0_ := zqj (Kd.V_below (Kd.V_elderB (by (with_reducible repeat (first | apply Kd.V_alloc | apply Kd.V_drewN | apply Kd.V_drew)); exact HO0_0.out) gb234 (Nat.le_of_eq hg.symm)) hb); have n1_ := zqj (Kd.V_below (Kd.V_elderB (by (with_reducible repeat (first | apply Kd.V_alloc | apply Kd.V_drewN | apply Kd.V_drew)); exact HO0_1.out) gb234 (Nat.le_of_eq hg.symm)) hb); have n2_ := zqj (blk_below (g := gb233) (o := .cells #[.slice A0_0 l0_0.length c0_0, .slice A0_1 l0_1.length c0_1, .bool true] 25 (0, 0)) (by (with_reducible repeat (first | refine zqa ?_ _ | refine zqb ?_ | refine zqc ?_ _)); exact BK233.out) hb); have n3_ := zqj (below_step (by repeat (first | (with_reducible first | exact HB.out | apply zqg | apply zqe | apply zqf | refine zqd ?_ GE233.out) | exact HB.out)) hb); have n4_ := zqj (hbox); have n5_ := zqj ((by rw [hg]; exact (below_size (by repeat (first | (with_reducible first | exact HB.out | apply zqg | apply zqe | apply zqf | refine zqd ?_ GE233.out) | exact HB.out))) : w.heap.size ≤ gb234)); have n6_ := zqj ((by rw [hg]; exact (below_size (by repeat (first | (with_reducible first | exact HB.out | apply zqg | apply zqe | apply zqf | refine zqd ?_ GE233.out) | exact HB.out))) : w.heap.size ≤ gb234)); have n7_ := zqj ((by rw [hg]; exact Nat.ne_of_lt (blk_lt (g := gb233) (o := .cells #[.slice A0_0 l0_0.length c0_0, .slice A0_1 l0_1.length c0_1, .bool true] 25 (0, 0)) (by (with_reducible repeat (first | refine zqa ?_ _ | refine zqb ?_ | refine zqc ?_ _)); exact BK233.out)) : gb233 ≠ gb234)); have n8_ := zqj ((by rw [hg]; exact Nat.ne_of_gt (blk_lt (g := gb233) (o := .cells #[.slice A0_0 l0_0.length c0_0, .slice A0_1 l0_1.length c0_1, .bool true] 25 (0, 0)) (by (with_reducible repeat (first | refine zqa ?_ _ | refine zqb ?_ | refine zqc ?_ _)); exact BK233.out)) : gb234 ≠ gb233)); clear HO0_0; clear HO0_1; clear BK233; clear HB; have HO0_0 := n0_; have HO0_1 := n1_; have BK233 := n2_; have HB := n3_; have BK234 := n4_; have GW234 := n5_; have GE234 := n6_; have NB233_234 := n7_; have NB234_233 := n8_; clear n0_ n1_ n2_ n3_ n4_ n5_ n6_ n7_ n8_; clear hb hbox hg; have hnb5 := NB233_234.out; have hnc5 := NB234_233.out; have hcz6_0 : w4.cell? ⟨gb233, 0, none⟩ = some (.slice A0_0 l0_0.length c0_0) := (blk_cell BK233.out 0).trans rfl; have hcz6_1 : w4.cell? ⟨gb233, 1, none⟩ = some (.slice A0_1 l0_1.length c0_1) := (blk_cell BK233.out 1).trans rfl; have hcz6_2 : w4.cell? ⟨gb233, 2, none⟩ = some (.bool true) := (blk_cell BK233.out 2).trans rfl; have hfz6_0 := zqi BK233.out 0; have hfz6_1 := zqi BK233.out 1; have hfz6_2 := zqi BK233.out 2; have hcz7_0 : w4.cell? ⟨gb234, 0, none⟩ = some (.slice none 0 0) := (blk_cell BK234.out 0).trans rfl; have hcz7_1 : w4.cell? ⟨gb234, 1, none⟩ = some (.slice none 0 0) := (blk_cell BK234.out 1).trans rfl; have hcz7_2 : w4.cell? ⟨gb234, 2, none⟩ = some (.bool false) := (blk_cell BK234.out 2).trans rfl; have hfz7_0 := zqi BK234.out 0; have hfz7_1 := zqi BK234.out 1; have hfz7_2 := zqi BK234.out 2))
  refine bodyPost_ret (results_ct rfl _ _ gb234 25 #[.slice A0_0 l0_0.length c0_0, .slice A0_1 l0_1.length c0_1, .bool true] (0, 0) _ rfl (by (with_reducible repeat (first | refine zqa ?_ _ | refine zqb ?_ | refine zqc ?_ _)); refine blk_put (cs := #[.slice A0_0 l0_0.length c0_0, .slice A0_1 l0_1.length c0_1, .bool false]) ?_ 2 _ rfl; (with_reducible repeat (first | refine zqa ?_ _ | refine zqb ?_ | refine zqc ?_ _)); refine blk_put (cs := #[.slice A0_0 l0_0.length c0_0, .slice none 0 0, .bool false]) ?_ 1 _ rfl; (with_reducible repeat (first | refine zqa ?_ _ | refine zqb ?_ | refine zqc ?_ _)); refine blk_put (cs := #[.slice none 0 0, .slice none 0 0, .bool false]) ?_ 0 _ rfl; (with_reducible repeat (first | refine zqa ?_ _ | refine zqb ?_ | refine zqc ?_ _)); exact BK234.out) Try.underlying25 rfl (by kernel_rfl)) rfl ?_
  exact ⟨_, _, by first | rfl | (simp [errW_none, errW_some] <;> rfl) | (simp [*, errW_none, errW_some] <;> rfl), by (with_reducible repeat (first | apply Kd.V_alloc | apply Kd.V_drewN | apply Kd.V_drew)); exact Kd.V_mono (Kd.V_far (p := ⟨gb234, 2, none⟩) (Kd.V_far (p := ⟨gb234, 1, none⟩) (Kd.V_far (p := ⟨gb234, 0, none⟩) (Kd.V_mono HO0_0.out (fun k_ hk => (⟨hk, hk.2⟩ : _ ∧ k_ ≠ gb234))) (fun _ hk => hk.2) (.slice A0_0 l0_0.length c0_0)) (fun _ hk => hk.2) (.slice A0_1 l0_1.length c0_1)) (fun _ hk => hk.2) (.bool true)) (fun _ hk => hk.1.1.1), by (with_reducible repeat (first | apply Kd.V_alloc | apply Kd.V_drewN | apply Kd.V_drew)); exact Kd.V_mono (Kd.V_far (p := ⟨gb234, 2, none⟩) (Kd.V_far (p := ⟨gb234, 1, none⟩) (Kd.V_far (p := ⟨gb234, 0, none⟩) (Kd.V_mono HO0_1.out (fun k_ hk => (⟨hk, hk.2⟩ : _ ∧ k_ ≠ gb234))) (fun _ hk => hk.2) (.slice A0_0 l0_0.length c0_0)) (fun _ hk => hk.2) (.slice A0_1 l0_1.length c0_1)) (fun _ hk => hk.2) (.bool true)) (fun _ hk => hk.1.1.1), by repeat (first | (with_reducible first | exact HB.out | apply zqg | apply zqe | apply zqf | refine zqd ?_ GE233.out | refine zqd ?_ GE234.out) | exact HB.out)⟩
 ·replace c2 := Bool.eq_false_iff.mpr c2
  subst c2
  have H1 : ((copyholdref04_Image.f l0_0 l0_1 false).bind fun t235 => (some (t235, ([] : List (S88)), false, 0))) = some (r1, r2, r3, r4) := by rw [if_neg (show ¬ (false = true) by decide)] at H; exact H
  clear H
  have H := H1
  clear H1
  replace H := zqn H
  obtain ⟨t235, A80, H⟩ := H
  replace H : (some (t235, ([] : List (S88)), false, 0)) = some (r1, r2, r3, r4) := H
  have A8 := zqj A80
  clear A80
  simp only [Option.some.injEq, Prod.mk.injEq] at H
  obtain ⟨rfl, rfl, rfl, rfl⟩ := H
  go_enter Try.func23, Try.ntmps23
  go_wp2_with (first | ((with_reducible refine gate_dst (N := 1) rfl ?_); refine box_event ?hg (N := 1) ?hd (cs := #[.slice A0_0 l0_0.length c0_0, .slice A0_1 l0_1.length c0_1, .bool false]) (t := 25) ?hr ?_; (case hd => rfl); (case hg => rfl); (case hr => first | (go_simp; done) | (go_simp; rfl)); intro gb233 hg w9 hbox hb; have n0_ := zqj (Kd.V_below (Kd.V_elderB (by (with_reducible repeat (first | apply Kd.V_alloc | apply Kd.V_drewN | apply Kd.V_drew)); exact HO0_0.out) gb233 (Nat.le_of_eq hg.symm)) hb); have n1_ := zqj (Kd.V_below (Kd.V_elderB (by (with_reducible repeat (first | apply Kd.V_alloc | apply Kd.V_drewN | apply Kd.V_drew)); exact HO0_1.out) gb233 (Nat.le_of_eq hg.symm)) hb); have n2_ := zqj (below_step (by repeat (first | (with_reducible first | exact HB.out | apply zqg | apply zqe | apply zqf) | exact HB.out)) hb); have n3_ := zqj (hbox); have n4_ := zqj ((by rw [hg]; exact (below_size (by repeat (first | (with_reducible first | exact HB.out | apply zqg | apply zqe | apply zqf) | exact HB.out))) : w.heap.size ≤ gb233)); have n5_ := zqj ((by rw [hg]; exact (below_size (by repeat (first | (with_reducible first | exact HB.out | apply zqg | apply zqe | apply zqf) | exact HB.out))) : w.heap.size ≤ gb233)); clear HO0_0; clear HO0_1; clear HB; have HO0_0 := n0_; have HO0_1 := n1_; have HB := n2_; have BK233 := n3_; have GW233 := n4_; have GE233 := n5_; clear n0_ n1_ n2_ n3_ n4_ n5_; clear hb hbox hg) | ((with_reducible refine gate_dst (N := 2) rfl ?_); refine box_event ?hg (N := 2) ?hd (cs := #[.slice none 0 0, .slice none 0 0, .bool false]) (t := 25) ?hr ?_; (case hd => rfl); (case hg => rfl); (case hr => first | (go_simp; done) | (go_simp; rfl)); intro gb234 hg w10 hbox hb; have n0_ := zqj (Kd.V_below (Kd.V_elderB (by (with_reducible repeat (first | apply Kd.V_alloc | apply Kd.V_drewN | apply Kd.V_drew)); exact HO0_0.out) gb234 (Nat.le_of_eq hg.symm)) hb); have n1_ := zqj (Kd.V_below (Kd.V_elderB (by (with_reducible repeat (first | apply Kd.V_alloc | apply Kd.V_drewN | apply Kd.V_drew)); exact HO0_1.out) gb234 (Nat.le_of_eq hg.symm)) hb); have n2_ := zqj (blk_below (g := gb233) (o := .cells #[.slice A0_0 l0_0.length c0_0, .slice A0_1 l0_1.length c0_1, .bool false] 25 (0, 0)) (by (with_reducible repeat (first | refine zqa ?_ _ | refine zqb ?_ | refine zqc ?_ _)); exact BK233.out) hb); have n3_ := zqj (below_step (by repeat (first | (with_reducible first | exact HB.out | apply zqg | apply zqe | apply zqf | refine zqd ?_ GE233.out) | exact HB.out)) hb); have n4_ := zqj (hbox); have n5_ := zqj ((by rw [hg]; exact (below_size (by repeat (first | (with_reducible first | exact HB.out | apply zqg | apply zqe | apply zqf | refine zqd ?_ GE233.out) | exact HB.out))) : w.heap.size ≤ gb234)); have n6_ := zqj ((by rw [hg]; exact (below_size (by repeat (first | (with_reducible first | exact HB.out | apply zqg | apply zqe | apply zqf | refine zqd ?_ GE233.out) | exact HB.out))) : w.heap.size ≤ gb234)); have n7_ := zqj ((by rw [hg]; exact Nat.ne_of_lt (blk_lt (g := gb233) (o := .cells #[.slice A0_0 l0_0.length c0_0, .slice A0_1 l0_1.length c0_1, .bool false] 25 (0, 0)) (by (with_reducible repeat (first | refine zqa ?_ _ | refine zqb ?_ | refine zqc ?_ _)); exact BK233.out)) : gb233 ≠ gb234)); have n8_ := zqj ((by rw [hg]; exact Nat.ne_of_gt (blk_lt (g := gb233) (o := .cells #[.slice A0_0 l0_0.length c0_0, .slice A0_1 l0_1.length c0_1, .bool false] 25 (0, 0)) (by (with_reducible repeat (first | refine zqa ?_ _ | refine zqb ?_ | refine zqc ?_ _)); exact BK233.out)) : gb234 ≠ gb233)); clear HO0_0; clear HO0_1; clear BK233; clear HB; have HO0_0 := n0_; have HO0_1 := n1_; have BK233 := n2_; have HB := n3_; have BK234 := n4_; have GW234 := n5_; have GE234 := n6_; have NB233_234 := n7_; have NB234_233 := n8_; clear n0_ n1_ n2_ n3_ n4_ n5_ n6_ n7_ n8_; clear hb hbox hg; have hnb11 := NB233_234.out; have hnc11 := NB234_233.out; have hcz12_0 : w10.cell? ⟨gb233, 0, none⟩ = some (.slice A0_0 l0_0.length c0_0) := (blk_cell BK233.out 0).trans rfl; have hcz12_1 : w10.cell? ⟨gb233, 1, none⟩ = some (.slice A0_1 l0_1.length c0_1) := (blk_cell BK233.out 1).trans rfl; have hcz12_2 : w10.cell? ⟨gb233, 2, none⟩ = some (.bool false) := (blk_cell BK233.out 2).trans rfl; have hfz12_0 := zqi BK233.out 0; have hfz12_1 := zqi BK233.out 1; have hfz12_2 := zqi BK233.out 2) | ((with_reducible refine gate_callee (f := 44) rfl ?_); refine goesL_ (some 8) rfl rfl Try.func44 (by kernel_rfl) rfl #[.agg #[.slice A0_0 l0_0.length c0_0, .slice A0_1 l0_1.length c0_1, .bool false]] rfl (by (try simp only [List.map_toArray, List.map_cons, List.map_nil]); first | done | rfl | (simp only [List.length_drop, List.length_take]; rfl)) ?_; (with_reducible refine (copyholdref04_Image.calls _ _ l0_0 _ _ l0_1 false t235 _ ?side1 ?side2 ?side3 ?side4 A8.out).mono ?_); (case side1 => repeat (first | exact (Kd.V_reads' HO0_0.out).2.2 | (with_reducible refine Kd.C_alloc ?_ _) | (with_reducible refine Kd.C_drewN ?_ _) | (with_reducible refine Kd.C_drew ?_))); (case side2 => exact (Kd.V_reads' HO0_0.out).2.1); (case side3 => repeat (first | exact (Kd.V_reads' HO0_1.out).2.2 | (with_reducible refine Kd.C_alloc ?_ _) | (with_reducible refine Kd.C_drewN ?_ _) | (with_reducible refine Kd.C_drew ?_))); (case side4 => exact (Kd.V_reads' HO0_1.out).2.1); rintro e w13 ⟨v236, rfl, ho0, hb⟩; refine ⟨_, rfl, ?_⟩; have n0_ := zqj (Kd.V_elder' (by (with_reducible repeat (first | apply Kd.V_alloc | apply Kd.V_drewN | apply Kd.V_drew)); exact HO0_0.out) (Kd.R_base ho0) hb); have n1_ := zqj (Kd.V_elder' (by (with_reducible repeat (first | apply Kd.V_alloc | apply Kd.V_drewN | apply Kd.V_drew)); exact HO0_1.out) (Kd.R_base ho0) hb); have n2_ := zqj (Kd.R_lower (Kd.R_newM (M := fun k_ => (w.heap.size ≤ k_)) ho0 (below_size (by repeat (first | (with_reducible first | exact HB.out | apply zqg | apply zqe | apply zqf | refine zqd ?_ GE233.out | refine zqd ?_ GE234.out) | exact HB.out))) (fun k_ h_ => h_)) (below_size (by repeat (first | (with_reducible first | exact HB.out | apply zqg | apply zqe | apply zqf | refine zqd ?_ GE233.out | refine zqd ?_ GE234.out) | exact HB.out)))); have n3_ := zqj (blk_below (g := gb233) (o := .cells #[.slice A0_0 l0_0.length c0_0, .slice A0_1 l0_1.length c0_1, .bool false] 25 (0, 0)) (by (with_reducible repeat (first | refine zqa ?_ _ | refine zqb ?_ | refine zqc ?_ _)); exact BK233.out) hb); have n4_ := zqj (blk_below (g := gb234) (o := .cells #[.slice none 0 0, .slice none 0 0, .bool false] 25 (0, 0)) (by (with_reducible repeat (first | refine zqa ?_ _ | refine zqb ?_ | refine zqc ?_ _)); exact BK234.out) hb); have n5_ := zqj (below_step (by repeat (first | (with_reducible first | exact HB.out | apply zqg | apply zqe | apply zqf | refine zqd ?_ GE233.out | refine zqd ?_ GE234.out) | exact HB.out)) hb); clear HO0_0; clear HO0_1; clear BK233; clear BK234; clear HB; have HO0_0 := n0_; have HO0_1 := n1_; have HO237 := n2_; have BK233 := n3_; have BK234 := n4_; have HB := n5_; clear n0_ n1_ n2_ n3_ n4_ n5_; (try clear hb); (try clear hb2); (try clear hk); (try clear hi); (try clear ho0); obtain ⟨Ao14, co14, eo14⟩ := Kd.R_slice HO237.out; subst eo14; have hcz15_0 : w13.cell? ⟨gb234, 0, none⟩ = some (.slice none 0 0) := (blk_cell BK234.out 0).trans rfl; have hcz15_1 : w13.cell? ⟨gb234, 1, none⟩ = some (.slice none 0 0) := (blk_cell BK234.out 1).trans rfl; have hcz15_2 : w13.cell? ⟨gb234, 2, none⟩ = some (.bool false) := (blk_cell BK234.out 2).trans rfl; have hfz15_0 := zqi BK234.out 0; have hfz15_1 := zqi BK234.out 1; have hfz15_2 := zqi BK234.out 2))
  refine bodyPost_ret (results_ct rfl _ _ gb234 25 #[.slice Ao14 t235.length co14, .slice none 0 0, .bool false] (0, 0) _ rfl (by (with_reducible repeat (first | refine zqa ?_ _ | refine zqb ?_ | refine zqc ?_ _)); refine blk_put (cs := #[.slice Ao14 t235.length co14, .slice none 0 0, .bool false]) ?_ 2 _ rfl; (with_reducible repeat (first | refine zqa ?_ _ | refine zqb ?_ | refine zqc ?_ _)); refine blk_put (cs := #[.slice Ao14 t235.length co14, .slice none 0 0, .bool false]) ?_ 1 _ rfl; (with_reducible repeat (first | refine zqa ?_ _ | refine zqb ?_ | refine zqc ?_ _)); refine blk_put (cs := #[.slice none 0 0, .slice none 0 0, .bool false]) ?_ 0 _ rfl; (with_reducible repeat (first | refine zqa ?_ _ | refine zqb ?_ | refine zqc ?_ _)); exact BK234.out) Try.underlying25 rfl (by kernel_rfl)) rfl ?_
  exact ⟨_, _, by first | rfl | (simp [errW_none, errW_some] <;> rfl) | (simp [*, errW_none, errW_some] <;> rfl), Kd.V_mono (Kd.R_V (by (with_reducible repeat (first | apply Kd.R_alloc | apply Kd.R_drewN | apply Kd.R_drew)); exact Kd.R_mono (Kd.R_far (p := ⟨gb234, 2, none⟩) (Kd.R_far (p := ⟨gb234, 1, none⟩) (Kd.R_far (p := ⟨gb234, 0, none⟩) (Kd.R_types HO237.out BK234.out (by decide)) (fun _ hk => hk.2) (.slice Ao14 t235.length co14)) (fun _ hk => hk.2) (.slice none 0 0)) (fun _ hk => hk.2) (.bool false)) (fun _ hk => hk.1.1))) (fun k_ hk => by first | exact ⟨(.inr (hk.1)), hk.2⟩ | exact (.inr (hk))), Kd.V_nil _ _ _ _ _, by repeat (first | (with_reducible first | exact HB.out | apply zqg | apply zqe | apply zqf | refine zqd ?_ GE233.out | refine zqd ?_ GE234.out) | exact HB.out)⟩
mutual
def copyholdref04_Crash.l0 : Nat → List Bool → List ByteArray → Int → List ByteArray → List (S88) → Bool → Option (List ByteArray × (List (S88)) × Bool)
 | 0, _, _, _, _, _, _ => none
 | k + 1, x1, x5, x6, x239000, x239001, x239002 => if x6 < (x239001.length : Int) then (copyholdref04_Crash.j1 k x1 x5 x6 (decide (x6 < (x1.length : Int))) x239000 x239001 x239002) else (copyholdref04_Crash.j1 k x1 x5 x6 false x239000 x239001 x239002)
def copyholdref04_Crash.j1 : Nat → List Bool → List ByteArray → Int → Bool → List ByteArray → List (S88) → Bool → Option (List ByteArray × (List (S88)) × Bool)
 | 0, _, _, _, _, _, _, _ => none
 | k + 1, x1, x5, x6, x21, x239000, x239001, x239002 => if x21 = true then (if 0 ≤ x6 then (if x6 < (x1.length : Int) then (if rdOf false x1 x6 = true then (if x6 < (x239001.length : Int) then (if 0 ≤ ((rd_T88 x239001 x6).f0) then (if ((rd_T88 x239001 x6).f0) < (x5.length : Int) then (copyholdref04_Crash.l0 k x1 (x5.set (((rd_T88 x239001 x6).f0) : Int).toNat ((rd_T88 x239001 x6).f1)) (wrap64 (x6 + 1)) x239000 x239001 x239002) else (none)) else (none)) else (none)) else (copyholdref04_Crash.l0 k x1 x5 (wrap64 (x6 + 1)) x239000 x239001 x239002)) else (none)) else (none)) else (some (x5, ([] : List (S88)), false))
end
def copyholdref04_Crash.f (k : Nat) (l0_0 : List ByteArray) (l0_1 : List (S88)) (a0_2 : Bool) (l1 : List Bool) : Option (List ByteArray × (List (S88)) × Bool) := (some (([] : List ByteArray) : List ByteArray)).bind fun y240 => (if y240.length + l0_0.length < 8796093022208 then (copyholdref04_Crash.l0 k l1 (y240 ++ l0_0) 0 l0_0 l0_1 a0_2) else (none))
theorem copyholdref04_Crash.mono_l : ∀ k, (∀ y0 y1 y2 y3 y4 y5, LeO (copyholdref04_Crash.l0 k y0 y1 y2 y3 y4 y5) (copyholdref04_Crash.l0 (k + 1) y0 y1 y2 y3 y4 y5)) ∧ (∀ y0 y1 y2 y3 y4 y5 y6, LeO (copyholdref04_Crash.j1 k y0 y1 y2 y3 y4 y5 y6) (copyholdref04_Crash.j1 (k + 1) y0 y1 y2 y3 y4 y5 y6))
 | 0 => ⟨fun _ _ _ _ _ _ r h => by simp [copyholdref04_Crash.l0] at h, fun _ _ _ _ _ _ _ r h => by simp [copyholdref04_Crash.j1] at h⟩
 | k + 1 => by
  obtain ⟨ih0, ih1⟩ := copyholdref04_Crash.mono_l k
  refine ⟨?_, ?_⟩
  ·intro y0 y1 y2 y3 y4 y5
   unfold copyholdref04_Crash.l0
   repeat' first
   | (with_reducible exact ih0 _ _ _ _ _ _)
   | (with_reducible exact ih1 _ _ _ _ _ _ _)
   | (with_reducible exact LeO.refl _)
   | (with_reducible exact LeO.none _)
   | (with_reducible refine LeO.ite ?_ ?_)
   | (with_reducible refine LeO.bind ?_ (fun _ => ?_))
   | exact ih0 _ _ _ _ _ _
   | exact ih1 _ _ _ _ _ _ _
   | exact LeO.none _
   | refine LeO.ite ?_ ?_
   | refine LeO.bind ?_ (fun _ => ?_)
  ·intro y0 y1 y2 y3 y4 y5 y6
   unfold copyholdref04_Crash.j1
   repeat' first
   | (with_reducible exact ih0 _ _ _ _ _ _)
   | (with_reducible exact ih1 _ _ _ _ _ _ _)
   | (with_reducible exact LeO.refl _)
   | (with_reducible exact LeO.none _)
   | (with_reducible refine LeO.ite ?_ ?_)
   | (with_reducible refine LeO.bind ?_ (fun _ => ?_))
   | exact ih0 _ _ _ _ _ _
   | exact ih1 _ _ _ _ _ _ _
   | exact LeO.none _
   | refine LeO.ite ?_ ?_
   | refine LeO.bind ?_ (fun _ => ?_)
theorem copyholdref04_Crash.mono : ∀ a0 a1 a2 a3 k, LeO (copyholdref04_Crash.f k a0 a1 a2 a3) (copyholdref04_Crash.f (k + 1) a0 a1 a2 a3) := by
 intro a0 a1 a2 a3 k
 obtain ⟨ih0, ih1⟩ := copyholdref04_Crash.mono_l k
 unfold copyholdref04_Crash.f
 repeat' first
   | (with_reducible exact ih0 _ _ _ _ _ _)
   | (with_reducible exact ih1 _ _ _ _ _ _ _)
   | (with_reducible exact LeO.refl _)
   | (with_reducible exact LeO.none _)
   | (with_reducible refine LeO.ite ?_ ?_)
   | (with_reducible refine LeO.bind ?_ (fun _ => ?_))
   | exact ih0 _ _ _ _ _ _
   | exact ih1 _ _ _ _ _ _ _
   | exact LeO.none _
   | refine LeO.ite ?_ ?_
   | refine LeO.bind ?_ (fun _ => ?_)
def copyholdref04_Crash.T6 : Bool × List (List Nat × List Nat) := (true, [([], []), ([], []), ([1], [1]), ([], []), ([2, 3], [2, 3]), ([4], [4]), ([5], [5]), ([], []), ([7], [7]), ([], []), ([8, 9], [8, 9]), ([10], [10]), ([11], [11]), ([0, 6, 0, 1, 2, 3, 4, 5, 6, 7, 8, 9, 10, 11, 12], [0, 6]), ([13, 12, 0, 1, 2, 3, 4, 5, 6, 7, 8, 9, 10, 11, 12], [12, 13])])
def copyholdref04_Crash.B6 : List Nat := [0, 0, 2, 0, 14, 30, 62, 0, 128, 0, 896, 1920, 3968, 8191, 16383]
theorem copyholdref04_Crash.tab6 : rtab .any (opsOf Try.f25 6) = copyholdref04_Crash.T6 := by kernel_rfl
theorem copyholdref04_Crash.bits6 : waitsOk copyholdref04_Crash.T6.2 copyholdref04_Crash.B6 = true := by kernel_rfl
set_option maxHeartbeats 8000000 in
set_option maxRecDepth 100000 in
theorem copyholdref04_Crash.calls (k : Nat) (A0_0 : Option Addr) (c0_0 : Nat) (l0_0 : List ByteArray) (A0_1 : Option Addr) (c0_1 : Nat) (l0_1 : List (S88)) (a0_2 : Bool) (A1 : Option Addr) (c1 : Nat) (l1 : List Bool) (r1 : List ByteArray) (r2 : List (S88)) (r3 : Bool) (w : World) (hr0_0 : Kd.C Kd.string w A0_0 l0_0.length l0_0) (hc0_0 : l0_0.length ≤ c0_0) (hr0_1 : Kd.C k88 w A0_1 l0_1.length l0_1) (hc0_1 : l0_1.length ≤ c0_1) (hr1 : Kd.C Kd.bool w A1 l1.length l1) (hc1 : l1.length ≤ c1) (h : copyholdref04_Crash.f k l0_0 l0_1 a0_2 l1 = some (r1, r2, r3)) :
  Calls Try.prog 25 #[.agg #[.slice A0_0 l0_0.length c0_0, .slice A0_1 l0_1.length c0_1, .bool a0_2], .slice A1 l1.length c1] w fun e w' => ∃ v0_ v1_ : Value, e = .returned (.agg #[v0_, v1_, .bool r3]) ∧ Kd.R Kd.string 9 w' w.heap.size (fun _ => True) v0_ r1 ∧ Kd.R k88 88 w' w.heap.size (fun _ => True) v1_ r2 ∧ Below w.heap.size w w' := by
 have hu25 := Try.underlying25
 have HR0_0 := zqj hr0_0
 have HC0_0 := zqj hc0_0
 clear hr0_0 hc0_0
 have HR0_1 := zqj hr0_1
 have HC0_1 := zqj hc0_1
 clear hr0_1 hc0_1
 have HR1 := zqj hr1
 have HC1 := zqj hc1
 clear hr1 hc1
 have HB := zqj (Below.refl w.heap.size w)
 have H : ((some (([] : List ByteArray) : List ByteArray)).bind fun y240 => (if y240.length + l0_0.length < 8796093022208 then (copyholdref04_Crash.l0 k l1 (y240 ++ l0_0) 0 l0_0 l0_1 a0_2) else (none))) = some (r1, r2, r3) := h
 clear h
 obtain ⟨y240, hy240⟩ : ∃ y_ : List ByteArray, y_ = (([] : List ByteArray)) := ⟨_, rfl⟩
 replace H : (if y240.length + l0_0.length < 8796093022208 then (copyholdref04_Crash.l0 k l1 (y240 ++ l0_0) 0 l0_0 l0_1 a0_2) else (none)) = some (r1, r2, r3) := by first | (rw [hy240]; with_reducible exact H) | (have H2_ := (Option.bind_some _ _).symm.trans H; rw [hy240]; with_reducible exact H2_) | (have H2_ := (Option.bind_some _ _).symm.trans H; with_reducible exact H2_) | with_reducible exact H | (rw [hy240]; exact H) | exact H
 have Ny240 := zqj hy240
 clear hy240
 by_cases c3 : y240.length + l0_0.length < 8796093022208
 ·rw [if_pos c3] at H
  have LMc3 := zqj c3
  clear c3
  obtain ⟨y243, hy243⟩ : ∃ y_ : List ByteArray, y_ = (y240 ++ l0_0) := ⟨_, rfl⟩
  replace H : (copyholdref04_Crash.l0 k l1 y243 0 l0_0 l0_1 a0_2) = some (r1, r2, r3) := by first | (rw [hy243]; with_reducible exact H) | (have H2_ := (Option.bind_some _ _).symm.trans H; rw [hy243]; with_reducible exact H2_) | (have H2_ := (Option.bind_some _ _).symm.trans H; with_reducible exact H2_) | with_reducible exact H | (rw [hy243]; exact H) | exact H
  have Ny243 := zqj hy243
  clear hy243
  have H' := zqj H
  clear H
  go_enter Try.func25, Try.ntmps25
  go_wp2_with (first | ((with_reducible refine gate_dst (N := 2) rfl ?_); (try (refine gate_guard (by rfl) ?_; dsimp only)); refine box_event ?hg (N := 2) ?hd (cs := #[.slice A0_0 l0_0.length c0_0, .slice A0_1 l0_1.length c0_1, .bool a0_2]) (t := 25) ?hr ?_; (case hd => rfl); (case hg => rfl); (case hr => first | (go_simp; done) | (go_simp; rfl)); intro gb238 hg w4 hbox hb; have n0_ := zqj (below_step (by repeat (first | (with_reducible first | exact HB.out | apply zqg | apply zqe | apply zqf) | exact HB.out)) hb); have n1_ := zqj (hbox); have n2_ := zqj ((by rw [hg]; exact (below_size (by repeat (first | (with_reducible first | exact HB.out | apply zqg | apply zqe | apply zqf) | exact HB.out))) : w.heap.size ≤ gb238)); have n3_ := zqj ((by rw [hg]; exact (below_size (by repeat (first | (with_reducible first | exact HB.out | apply zqg | apply zqe | apply zqf) | exact HB.out))) : w.heap.size ≤ gb238)); clear HB; have HB := n0_; have BK238 := n1_; have GW238 := n2_; have GE238 := n3_; clear n0_ n1_ n2_ n3_; clear hb hbox hg) | ((with_reducible refine gate_dst (N := 4) rfl ?_); (try (refine gate_guard (by rfl) ?_; dsimp only)); refine box_event ?hg (N := 4) ?hd (cs := #[.slice none 0 0, .slice none 0 0, .bool false]) (t := 25) ?hr ?_; (case hd => rfl); (case hg => rfl); (case hr => first | (go_simp; done) | (go_simp; rfl)); intro gb239 hg w5 hbox hb; have n0_ := zqj (blk_below (g := gb238) (o := .cells #[.slice A0_0 l0_0.length c0_0, .slice A0_1 l0_1.length c0_1, .bool a0_2] 25 (0, 0)) (by (with_reducible repeat (first | refine zqa ?_ _ | refine zqb ?_ | refine zqc ?_ _)); exact BK238.out) hb); have n1_ := zqj (below_step (by repeat (first | (with_reducible first | exact HB.out | apply zqg | apply zqe | apply zqf | refine zqd ?_ GE238.out) | exact HB.out)) hb); have n2_ := zqj (hbox); have n3_ := zqj ((by rw [hg]; exact (below_size (by repeat (first | (with_reducible first | exact HB.out | apply zqg | apply zqe | apply zqf | refine zqd ?_ GE238.out) | exact HB.out))) : w.heap.size ≤ gb239)); have n4_ := zqj ((by rw [hg]; exact (below_size (by repeat (first | (with_reducible first | exact HB.out | apply zqg | apply zqe | apply zqf | refine zqd ?_ GE238.out) | exact HB.out))) : w.heap.size ≤ gb239)); have n5_ := zqj ((by rw [hg]; exact Nat.ne_of_lt (blk_lt (g := gb238) (o := .cells #[.slice A0_0 l0_0.length c0_0, .slice A0_1 l0_1.length c0_1, .bool a0_2] 25 (0, 0)) (by (with_reducible repeat (first | refine zqa ?_ _ | refine zqb ?_ | refine zqc ?_ _)); exact BK238.out)) : gb238 ≠ gb239)); have n6_ := zqj ((by rw [hg]; exact Nat.ne_of_gt (blk_lt (g := gb238) (o := .cells #[.slice A0_0 l0_0.length c0_0, .slice A0_1 l0_1.length c0_1, .bool a0_2] 25 (0, 0)) (by (with_reducible repeat (first | refine zqa ?_ _ | refine zqb ?_ | refine zqc ?_ _)); exact BK238.out)) : gb239 ≠ gb238)); clear BK238; clear HB; have BK238 := n0_; have HB := n1_; have BK239 := n2_; have GW239 := n3_; have GE239 := n4_; have NB238_239 := n5_; have NB239_238 := n6_; clear n0_ n1_ n2_ n3_ n4_ n5_ n6_; clear hb hbox hg) | ((with_reducible refine gate_dst (N := 7) rfl ?_); (try (refine gate_guard (by rfl) ?_; dsimp only)); refine Kd.R_lit Kd.string _ 9 ?hg (N := 7) ?hd (xs := ([] : List ByteArray)) (inner := []) (ok := fun _ => True) (okp := fun _ => True) ?hr ?hp (fun _ hk => hk) trivial (Below.refl _ _) (Nat.le_refl _) (by simp) ?_; (case hd => rfl); (case hg => rfl); (case hr => first | (go_simp; done) | (go_simp; rfl)); (case hp => exact (Reps.none _ _)); intro v241 w6 ho7 hb hg_ hnew_; clear hg_ hnew_; (first | rw [← Ny240.out] at ho7 | (simp only [Int.reduceToNat] at ho7; rw [← Ny240.out] at ho7)); have n0_ := zqj (Kd.R_lower ho7 (below_size (by repeat (first | (with_reducible first | exact HB.out | apply zqg | apply zqe | apply zqf | refine zqd ?_ GE238.out | refine zqd ?_ GE239.out) | exact HB.out)))); have n1_ := zqj (blk_below (g := gb238) (o := .cells #[.slice A0_0 l0_0.length c0_0, .slice A0_1 l0_1.length c0_1, .bool a0_2] 25 (0, 0)) (by (with_reducible repeat (first | refine zqa ?_ _ | refine zqb ?_ | refine zqc ?_ _)); exact BK238.out) hb); have n2_ := zqj (blk_below (g := gb239) (o := .cells #[.slice none 0 0, .slice none 0 0, .bool false] 25 (0, 0)) (by (with_reducible repeat (first | refine zqa ?_ _ | refine zqb ?_ | refine zqc ?_ _)); exact BK239.out) hb); have n3_ := zqj (below_step (by repeat (first | (with_reducible first | exact HB.out | apply zqg | apply zqe | apply zqf | refine zqd ?_ GE238.out | refine zqd ?_ GE239.out) | exact HB.out)) hb); clear BK238; clear BK239; clear HB; have HO242 := n0_; have BK238 := n1_; have BK239 := n2_; have HB := n3_; clear n0_ n1_ n2_ n3_; clear hb ho7; have hnb8 := NB238_239.out; have hnc8 := NB239_238.out; have hcz9_0 : w6.cell? ⟨gb238, 0, none⟩ = some (.slice A0_0 l0_0.length c0_0) := (blk_cell BK238.out 0).trans rfl; have hcz9_1 : w6.cell? ⟨gb238, 1, none⟩ = some (.slice A0_1 l0_1.length c0_1) := (blk_cell BK238.out 1).trans rfl; have hcz9_2 : w6.cell? ⟨gb238, 2, none⟩ = some (.bool a0_2) := (blk_cell BK238.out 2).trans rfl; have hfz9_0 := zqi BK238.out 0; have hfz9_1 := zqi BK238.out 1; have hfz9_2 := zqi BK238.out 2) | ((with_reducible refine gate_builtin (b := .append) (xs := #[.tmp 7, .tmp 9]) rfl ?_); (try (refine gate_guard (by rfl) ?_; dsimp only)); at_builtin; refine Kd.R_append_rows Kd.string (w0 := w) w.heap.size rfl (.tmp 7) (.tmp 9) 22 9 (.string ⟨#[]⟩) 16 rfl Try.underlying22 info9 rfl (by decide) (by omega) v241 y240 l0_0 _ _ _ (fun _ => True) (fun _ => False) rfl rfl ?aO ?aR (fun _ _ h => h) (fun _ h => h.elim) ?aF ?aB ?aS ?aL ?_; (case aR => repeat (first | exact (Kd.C_below HR0_0.out HB.out) | (with_reducible refine Kd.C_alloc ?_ _) | (with_reducible refine Kd.C_drewN ?_ _) | (with_reducible refine Kd.C_drew ?_))); (case aB => exact (by repeat (first | (with_reducible first | exact HB.out | apply zqg | apply zqe | apply zqf | refine zqd ?_ GE238.out | refine zqd ?_ GE239.out) | exact HB.out))); (case aF => exact (fun _ _ => trivial)); (case aO => exact (by (with_reducible repeat (first | apply Kd.R_alloc | apply Kd.R_drewN | apply Kd.R_drew)); exact HO242.out)); (case aS => exact (below_size (by repeat (first | (with_reducible first | exact HB.out | apply zqg | apply zqe | apply zqf | refine zqd ?_ GE238.out | refine zqd ?_ GE239.out) | exact HB.out)))); (case aL => have := LMc3.out; omega); intro v244 w10 ho hb hg hat; rw [← Ny243.out] at ho; have n0_ := zqj (blk_grown (g := gb238) (o := .cells #[.slice A0_0 l0_0.length c0_0, .slice A0_1 l0_1.length c0_1, .bool a0_2] 25 (0, 0)) (by (with_reducible repeat (first | refine zqa ?_ _ | refine zqb ?_ | refine zqc ?_ _)); exact BK238.out) hg (Kd.R_ne HO242.out BK238.out (by decide))); have n1_ := zqj (blk_grown (g := gb239) (o := .cells #[.slice none 0 0, .slice none 0 0, .bool false] 25 (0, 0)) (by (with_reducible repeat (first | refine zqa ?_ _ | refine zqb ?_ | refine zqc ?_ _)); exact BK239.out) hg (Kd.R_ne HO242.out BK239.out (by decide))); have n2_ := zqj (hb); have n3_ := zqj (ho); clear BK238; clear BK239; clear HB; clear HO242; have BK238 := n0_; have BK239 := n1_; have HB := n2_; have HO245 := n3_; clear n0_ n1_ n2_ n3_; clear ho hb hg hat))
  go_loopg [6] k (fun kq v6 w' => ∃ (x5_1 : List ByteArray) (x6_1 : Int), v6 = .int .i64 x6_1 ∧ Aside0 (copyholdref04_Crash.l0 kq l1 x5_1 x6_1 l0_0 l0_1 a0_2 = some (r1, r2, r3)) ∧ Aside0 (kq ≤ k) ∧ Aside0 (Kd.R Kd.string 9 w' w.heap.size (fun _ => True) v244 x5_1) ∧ Aside0 (w'.heap[gb238]? = some (.cells #[(.slice A0_0 l0_0.length c0_0), (.slice A0_1 l0_1.length c0_1), .bool a0_2] 25 (0, 0))) ∧ Aside0 (w'.heap[gb239]? = some (.cells #[(.slice none 0 0), (.slice none 0 0), .bool false] 25 (0, 0))) ∧ Aside0 (Below w.heap.size w w'))
  case atStart => exact ⟨(y243), (0), (by first | rfl | (simp; done) | (simp [*]; done)), H', ⟨Nat.le_refl _⟩, ⟨by (with_reducible repeat (first | apply Kd.R_alloc | apply Kd.R_drewN | apply Kd.R_drew)); exact HO245.out⟩, ⟨by (with_reducible repeat (first | refine zqa ?_ _ | refine zqb ?_ | refine zqc ?_ _)); exact BK238.out⟩, ⟨by (with_reducible repeat (first | refine zqa ?_ _ | refine zqb ?_ | refine zqc ?_ _)); exact BK239.out⟩, ⟨by repeat (first | (with_reducible first | exact HB.out | apply zqg | apply zqe | apply zqf | refine zqd ?_ GE238.out | refine zqd ?_ GE239.out) | exact HB.out)⟩⟩
  case round =>
   clear H'
   ((try clear c1); (try clear c2); (try clear p2); (try clear c3); (try clear c8); (try clear hcz9_0); (try clear hcz9_1); (try clear hcz9_2); (try clear hfz9_0); (try clear hfz9_1); (try clear hfz9_2))
   obtain ⟨x5_1, x6_1, rfl, HA, HK1, HO_5, BK238, BK239, HB⟩ := hrel
   cases gk with
   | zero => exact absurd HA.out (by simp [copyholdref04_Crash.l0])
   | succ k1 =>
    (have H := HA.out; clear HA)
    simp only [copyholdref04_Crash.l0] at H
    have HC11 := zqj H
    clear H
    go_upto_region 3 with (fail)
    go_cut [21] (fun v21 wc => ∃ (kq : Nat) (x21_10 : Bool), v21 = .bool x21_10 ∧ Aside0 (copyholdref04_Crash.j1 kq l1 x5_1 x6_1 x21_10 l0_0 l0_1 a0_2 = some (r1, r2, r3)) ∧ Aside0 (kq ≤ k1) ∧ Aside0 (Kd.R Kd.string 9 wc w.heap.size (fun _ => True) v244 x5_1) ∧ Aside0 (wc.heap[gb238]? = some (.cells #[(.slice A0_0 l0_0.length c0_0), (.slice A0_1 l0_1.length c0_1), .bool a0_2] 25 (0, 0))) ∧ Aside0 (wc.heap[gb239]? = some (.cells #[(.slice none 0 0), (.slice none 0 0), .bool false] 25 (0, 0))) ∧ Aside0 (Below w.heap.size w wc))
    case first =>
     (have H := HC11.out; clear HC11)
     by_cases c12 : x6_1 < (l0_1.length : Int)
     ·rw [if_pos c12] at H
      have c12b0 : decide (x6_1 < (l0_1.length : Int)) = true := decide_eq_true c12
      clear c12
      (first | rw [c12b0] | (simp only [i64_w, i32_w]; rw [c12b0]) | skip)
      have H' := zqj H
      clear H
      have hnb13 := NB238_239.out
      have hnc13 := NB239_238.out
      have hcz14_0 : wr.cell? ⟨gb238, 0, none⟩ = some (.slice A0_0 l0_0.length c0_0) := (blk_cell BK238.out 0).trans rfl
      have hcz14_1 : wr.cell? ⟨gb238, 1, none⟩ = some (.slice A0_1 l0_1.length c0_1) := (blk_cell BK238.out 1).trans rfl
      have hcz14_2 : wr.cell? ⟨gb238, 2, none⟩ = some (.bool a0_2) := (blk_cell BK238.out 2).trans rfl
      (have hfz14_0 := zqi BK238.out 0; have hfz14_1 := zqi BK238.out 1; have hfz14_2 := zqi BK238.out 2)
      go_wp2
      go_meet
      case rel => exact ⟨_, (decide (x6_1 < (l1.length : Int))), (by first | rfl | (simp; done) | (simp [*]; done)), H', ⟨by have := HK1.out; first | omega | exact Nat.le_refl _⟩, ⟨by (with_reducible repeat (first | apply Kd.R_alloc | apply Kd.R_drewN | apply Kd.R_drew)); exact HO_5.out⟩, ⟨by (with_reducible repeat (first | refine zqa ?_ _ | refine zqb ?_ | refine zqc ?_ _)); exact BK238.out⟩, ⟨by (with_reducible repeat (first | refine zqa ?_ _ | refine zqb ?_ | refine zqc ?_ _)); exact BK239.out⟩, ⟨by repeat (first | (with_reducible first | exact HB.out | apply zqg | apply zqe | apply zqf | refine zqd ?_ GE238.out | refine zqd ?_ GE239.out) | exact HB.out)⟩⟩
     ·rw [if_neg c12] at H
      have c12b0 : decide (x6_1 < (l0_1.length : Int)) = false := decide_eq_false c12
      clear c12
      (first | rw [c12b0] | (simp only [i64_w, i32_w]; rw [c12b0]) | skip)
      have H' := zqj H
      clear H
      have hnb15 := NB238_239.out
      have hnc15 := NB239_238.out
      have hcz16_0 : wr.cell? ⟨gb238, 0, none⟩ = some (.slice A0_0 l0_0.length c0_0) := (blk_cell BK238.out 0).trans rfl
      have hcz16_1 : wr.cell? ⟨gb238, 1, none⟩ = some (.slice A0_1 l0_1.length c0_1) := (blk_cell BK238.out 1).trans rfl
      have hcz16_2 : wr.cell? ⟨gb238, 2, none⟩ = some (.bool a0_2) := (blk_cell BK238.out 2).trans rfl
      (have hfz16_0 := zqi BK238.out 0; have hfz16_1 := zqi BK238.out 1; have hfz16_2 := zqi BK238.out 2)
      go_wp2
      go_meet
      case rel => exact ⟨_, (false), (by first | rfl | (simp; done) | (simp [*]; done)), H', ⟨by have := HK1.out; first | omega | exact Nat.le_refl _⟩, ⟨by (with_reducible repeat (first | apply Kd.R_alloc | apply Kd.R_drewN | apply Kd.R_drew)); exact HO_5.out⟩, ⟨by (with_reducible repeat (first | refine zqa ?_ _ | refine zqb ?_ | refine zqc ?_ _)); exact BK238.out⟩, ⟨by (with_reducible repeat (first | refine zqa ?_ _ | refine zqb ?_ | refine zqc ?_ _)); exact BK239.out⟩, ⟨by repeat (first | (with_reducible first | exact HB.out | apply zqg | apply zqe | apply zqf | refine zqd ?_ GE238.out | refine zqd ?_ GE239.out) | exact HB.out)⟩⟩
    case rest =>
     (clear HC11; (try clear c1); (try clear c2); (try clear p2); (try clear c3); (try clear c8); (try clear c12); (try clear c12b0); (try clear c13); (try clear c15); (try clear hcz14_0); (try clear hcz14_1); (try clear hcz14_2); (try clear hcz16_0); (try clear hcz16_1); (try clear hcz16_2); (try clear hcz9_0); (try clear hcz9_1); (try clear hcz9_2); (try clear hfz14_0); (try clear hfz14_1); (try clear hfz14_2); (try clear hfz16_0); (try clear hfz16_1); (try clear hfz16_2); (try clear hfz9_0); (try clear hfz9_1); (try clear hfz9_2); (try clear p2))
     obtain ⟨kq, x21_10, rfl, HA, HJ10, HO_5, BK238, BK239, HB⟩ := hcut
     cases kq with
     | zero => exact absurd HA.out (by simp [copyholdref04_Crash.j1])
     | succ kj10 =>
      (have H := HA.out; clear HA)
      simp only [copyholdref04_Crash.j1] at H
      by_cases c17 : x21_10 = true
      ·subst c17
       have H1 : (if 0 ≤ x6_1 then (if x6_1 < (l1.length : Int) then (if rdOf false l1 x6_1 = true then (if x6_1 < (l0_1.length : Int) then (if 0 ≤ ((rd_T88 l0_1 x6_1).f0) then (if ((rd_T88 l0_1 x6_1).f0) < (x5_1.length : Int) then (copyholdref04_Crash.l0 kj10 l1 (x5_1.set (((rd_T88 l0_1 x6_1).f0) : Int).toNat ((rd_T88 l0_1 x6_1).f1)) (wrap64 (x6_1 + 1)) l0_0 l0_1 a0_2) else (none)) else (none)) else (none)) else (copyholdref04_Crash.l0 kj10 l1 x5_1 (wrap64 (x6_1 + 1)) l0_0 l0_1 a0_2)) else (none)) else (none)) = some (r1, r2, r3) := by rw [if_pos rfl] at H; exact H
       clear H
       have H := H1
       clear H1
       by_cases c18 : 0 ≤ x6_1
       ·rw [if_pos c18] at H
        have c18b0 : decide (0 ≤ x6_1) = true := decide_eq_true c18
        clear c18
        by_cases c19 : x6_1 < (l1.length : Int)
        ·rw [if_pos c19] at H
         have c19b0 : decide (x6_1 < (l1.length : Int)) = true := decide_eq_true c19
         clear c19
         obtain ⟨bq20, hbq20⟩ : ∃ b_ : Bool, b_ = (rdOf false l1 x6_1) := ⟨_, rfl⟩
         replace H : (if bq20 = true then (if x6_1 < (l0_1.length : Int) then (if 0 ≤ ((rd_T88 l0_1 x6_1).f0) then (if ((rd_T88 l0_1 x6_1).f0) < (x5_1.length : Int) then (copyholdref04_Crash.l0 kj10 l1 (x5_1.set (((rd_T88 l0_1 x6_1).f0) : Int).toNat ((rd_T88 l0_1 x6_1).f1)) (wrap64 (x6_1 + 1)) l0_0 l0_1 a0_2) else (none)) else (none)) else (none)) else (copyholdref04_Crash.l0 kj10 l1 x5_1 (wrap64 (x6_1 + 1)) l0_0 l0_1 a0_2)) = some (r1, r2, r3) := by rw [← hbq20] at H; exact H
         have Nbq20 := zqj hbq20
         clear hbq20
         by_cases c21 : bq20 = true
         ·subst c21
          have H1 : (if x6_1 < (l0_1.length : Int) then (if 0 ≤ ((rd_T88 l0_1 x6_1).f0) then (if ((rd_T88 l0_1 x6_1).f0) < (x5_1.length : Int) then (copyholdref04_Crash.l0 kj10 l1 (x5_1.set (((rd_T88 l0_1 x6_1).f0) : Int).toNat ((rd_T88 l0_1 x6_1).f1)) (wrap64 (x6_1 + 1)) l0_0 l0_1 a0_2) else (none)) else (none)) else (none)) = some (r1, r2, r3) := by rw [if_pos rfl] at H; exact H
          clear H
          have H := H1
          clear H1
          by_cases c22 : x6_1 < (l0_1.length : Int)
          ·rw [if_pos c22] at H
           have c22b0 : decide (x6_1 < (l0_1.length : Int)) = true := decide_eq_true c22
           clear c22
           by_cases c23 : 0 ≤ ((rd_T88 l0_1 x6_1).f0)
           ·rw [if_pos c23] at H
            have c23b0 : decide (0 ≤ ((rd_T88 l0_1 x6_1).f0)) = true := decide_eq_true c23
            clear c23
            by_cases c24 : ((rd_T88 l0_1 x6_1).f0) < (x5_1.length : Int)
            ·rw [if_pos c24] at H
             have c24b0 : decide (((rd_T88 l0_1 x6_1).f0) < (x5_1.length : Int)) = true := decide_eq_true c24
             clear c24
             obtain ⟨y249, hy249⟩ : ∃ y_ : List ByteArray, y_ = (x5_1.set (((rd_T88 l0_1 x6_1).f0) : Int).toNat ((rd_T88 l0_1 x6_1).f1)) := ⟨_, rfl⟩
             replace H : (copyholdref04_Crash.l0 kj10 l1 y249 (wrap64 (x6_1 + 1)) l0_0 l0_1 a0_2) = some (r1, r2, r3) := by first | (rw [hy249]; with_reducible exact H) | (have H2_ := (Option.bind_some _ _).symm.trans H; rw [hy249]; with_reducible exact H2_) | (have H2_ := (Option.bind_some _ _).symm.trans H; with_reducible exact H2_) | with_reducible exact H | (rw [hy249]; exact H) | exact H
             have Ny249 := zqj hy249
             clear hy249
             have H' := zqj H
             clear H
             have p246 : 0 ≤ (x6_1 : Int) := zqh (by first | (with_reducible assumption) | assumption)
             have q246 : x6_1 < (l1.length : Int) := zqh (by first | (with_reducible assumption) | assumption)
             obtain ⟨ad246, e246, hx246_0⟩ := Kd.at_bool HR1.out x6_1 p246 q246
             (try rw [← Nbq20.out] at hx246_0)
             cases e246
             replace hx246_0 := (HB.out.cell (World.block_lt_of_cell? w _ hx246_0)).trans hx246_0
             replace p246 := eq_true p246
             replace q246 := eq_true q246
             try go_wp2
             have n0_ := zqj (Kd.R_drew HO_5.out)
             have n1_ := zqj (zqb BK238.out)
             have n2_ := zqj (zqb BK239.out)
             have n3_ := zqj (zqf HB.out)
             (clear HO_5; clear BK238; clear BK239; clear HB; have HO_5 := n0_; have BK238 := n1_; have BK239 := n2_; have HB := n3_; clear n0_ n1_ n2_ n3_)
             have p247 : 0 ≤ (x6_1 : Int) := zqh (by first | (with_reducible assumption) | assumption)
             have q247 : x6_1 < (l0_1.length : Int) := zqh (by first | (with_reducible assumption) | assumption)
             obtain ⟨ad247, e247, hx247_0, hx247_1⟩ := at_T88 HR0_1.out x6_1 p247 q247
             have hw247_1 := hx247_1
             have hw247_0 := hx247_0
             cases e247
             replace hx247_0 := (HB.out.cell (World.block_lt_of_cell? w _ hx247_0)).trans hx247_0
             replace hx247_1 := (HB.out.cell (World.block_lt_of_cell? w _ hx247_1)).trans hx247_1
             replace p247 := eq_true p247
             replace q247 := eq_true q247
             have p248 : 0 ≤ (x6_1 : Int) := zqh (by first | (with_reducible assumption) | assumption)
             have q248 : x6_1 < (l0_1.length : Int) := zqh (by first | (with_reducible assumption) | assumption)
             obtain ⟨ad248, e248, hx248_0, hx248_1⟩ := at_T88 HR0_1.out x6_1 p248 q248
             have hw248_1 := hx248_1
             have hw248_0 := hx248_0
             obtain rfl : ad247 = ad248 := (by injection e248)
             replace hx248_0 := (HB.out.cell (World.block_lt_of_cell? w _ hx248_0)).trans hx248_0
             replace hx248_1 := (HB.out.cell (World.block_lt_of_cell? w _ hx248_1)).trans hx248_1
             replace p248 := eq_true p248
             replace q248 := eq_true q248
             have p25 : 0 ≤ (((rd_T88 l0_1 x6_1).f0) : Int) := zqh (by first | (with_reducible assumption) | assumption)
             have q25 : (((rd_T88 l0_1 x6_1).f0) : Int) < ((x5_1.length : Int) : Int) := zqh (by first | (with_reducible assumption) | assumption)
             obtain ⟨go25, co25, eo25, gb25, gl25, cl25, HG25⟩ := Kd.R_form HO_5.out (by omega)
             (first | cases eo25 | (injection eo25 with ea_ en_ ec_; (first | subst ea_ | (injection ea_ with ea_; subst ea_)); subst ec_; clear en_))
             have GB25 := zqj gb25
             have GG25 := zqj HG25
             clear gb25 gl25 HG25
             obtain ⟨hx25_0, hf25_0⟩ := Kd.R_celln (⟨#[]⟩ : ByteArray) HO_5.out (((rd_T88 l0_1 x6_1).f0) : Int) p25 q25
             replace p25 := eq_true p25
             replace q25 := eq_true q25
             have HP27 := Kd.R_putn HO_5.out (((rd_T88 l0_1 x6_1).f0) : Int) ((rd_T88 l0_1 x6_1).f1)
             rw [← Ny249.out] at HP27
             have HQ27 := zqj HP27
             clear HP27
             refine start_ (n := 15) (S := fun w' => w'.cell? ⟨gb238, 0, none⟩ = some (.slice A0_0 l0_0.length c0_0) ∧ w'.cell? ⟨gb238, 1, none⟩ = some (.slice (some ad247) l0_1.length c0_1) ∧ w'.cell? ⟨gb238, 2, none⟩ = some (.bool a0_2) ∧ w'.cell? (ad247.add ((x6_1).toNat * 2)) = some (.int .i64 ((rd_T88 l0_1 x6_1).f0)) ∧ w'.cell? ⟨(ad247.add ((x6_1).toNat * 2)).block, (ad247.add ((x6_1).toNat * 2)).off + 1, none⟩ = some (.string ((rd_T88 l0_1 x6_1).f1)) ∧ w'.cell? (ad247.add ((x6_1).toNat * 2)) = some (.int .i64 ((rd_T88 l0_1 x6_1).f0)) ∧ w'.cell? ⟨(ad247.add ((x6_1).toNat * 2)).block, (ad247.add ((x6_1).toNat * 2)).off + 1, none⟩ = some (.string ((rd_T88 l0_1 x6_1).f1))) (ds := [14]) #[false, false, false, false, false, false, false, false, false, false, false, false, false, false, false] (by kernel_rfl) rfl rfl ⟨(blk_cell BK238.out 0).trans rfl, (blk_cell BK238.out 1).trans rfl, (blk_cell BK238.out 2).trans rfl, ((HB.out.cell (World.block_lt_of_cell? w _ hw247_0)).trans hw247_0), ((HB.out.cell (World.block_lt_of_cell? w _ hw247_1)).trans hw247_1), ((HB.out.cell (World.block_lt_of_cell? w _ hw248_0)).trans hw248_0), ((HB.out.cell (World.block_lt_of_cell? w _ hw248_1)).trans hw248_1)⟩ (fun hHeld => ?_); refine with_tabW copyholdref04_Crash.tab6 copyholdref04_Crash.bits6 (fun HT_ HW_ => ?_)
             generalize wc.drew = w26 at HO_5 BK238 BK239 HB GG25 HQ27 hf25_0 hx247_0 hx247_1 hx248_0 hx248_1 hx25_0 hHeld ⊢
             refine pure_ (i := 0) (N := some 28) (v := ?_) (a' := ?_) #[true, false, false, false, false, false, false, false, false, false, false, false, false, false, false] rfl rfl (any_of HT_.out (by kernel_rfl)) (fun _ _ _ h => h) (Or.inl ⟨by rfl, ?_⟩) ?_ ?_
             (rotate_left; · (intro w'; go_simp; with_reducible rfl))
             (rotate_left; · (simp only [Act.put, zqk, zql, zqm, i64_w, i32_w]; rfl))
             refine pure_ (i := 1) (N := some 29) (v := ?_) (a' := ?_) #[true, true, false, false, false, false, false, false, false, false, false, false, false, false, false] rfl rfl (any_of HT_.out (by kernel_rfl)) (fun _ _ _ h => h) (Or.inl ⟨by rfl, ?_⟩) ?_ ?_
             (rotate_left; · (intro w'; go_simp; with_reducible rfl))
             (rotate_left; · (simp only [Act.put, zqk, zql, zqm, i64_w, i32_w]; rfl))
             refine pure_ (i := 3) (N := some 31) (v := ?_) (a' := ?_) #[true, true, false, true, false, false, false, false, false, false, false, false, false, false, false] rfl rfl (any_of HT_.out (by kernel_rfl)) (fun _ _ _ h => h) (Or.inl ⟨by rfl, ?_⟩) ?_ ?_
             (rotate_left; · (intro w'; go_simp; with_reducible rfl))
             (rotate_left; · (simp only [Act.put, zqk, zql, zqm, i64_w, i32_w]; rfl))
             refine pure_ (i := 7) (N := some 35) (v := ?_) (a' := ?_) #[true, true, false, true, false, false, false, true, false, false, false, false, false, false, false] rfl rfl (any_of HT_.out (by kernel_rfl)) (fun _ _ _ h => h) (Or.inl ⟨by rfl, ?_⟩) ?_ ?_
             (rotate_left; · (intro w'; go_simp; with_reducible rfl))
             (rotate_left; · (simp only [Act.put, zqk, zql, zqm, i64_w, i32_w]; rfl))
             refine pure_ (i := 9) (N := some 37) (v := ?_) (a' := ?_) #[true, true, false, true, false, false, false, true, false, true, false, false, false, false, false] rfl rfl (any_of HT_.out (by kernel_rfl)) (fun _ _ _ h => h) (Or.inl ⟨by rfl, ?_⟩) ?_ ?_
             (rotate_left; · (intro w'; go_simp; with_reducible rfl))
             (rotate_left; · (simp only [Act.put, zqk, zql, zqm, i64_w, i32_w]; rfl))
             refine take_ (i := 2) (N := some 30) (v := ?_) (a' := ?_) #[true, true, true, true, false, false, false, true, false, true, false, false, false, false, false] rfl rfl (take_ofW HT_.out HW_.out (by kernel_rfl)) (fun _ _ _ h => h) (Or.inl ⟨by rfl, ?_⟩) hHeld ?_ ?_
             rotate_left
             ·rintro w' ⟨s0, s1, s2, s3, s4, s5, s6⟩
              go_simp
              with_reducible rfl
             (rotate_left; · (simp only [Act.put, zqk, zql, zqm, i64_w, i32_w]; rfl))
             refine pure_ (i := 4) (N := some 32) (v := ?_) (a' := ?_) #[true, true, true, true, true, false, false, true, false, true, false, false, false, false, false] rfl rfl (any_of HT_.out (by kernel_rfl)) (fun _ _ _ h => h) (Or.inl ⟨by rfl, ?_⟩) ?_ ?_
             (rotate_left; · (intro w'; go_simp; with_reducible rfl))
             (rotate_left; · (simp only [Act.put, zqk, zql, zqm, i64_w, i32_w]; rfl))
             refine pure_ (i := 5) (N := some 33) (v := ?_) (a' := ?_) #[true, true, true, true, true, true, false, true, false, true, false, false, false, false, false] rfl rfl (any_of HT_.out (by kernel_rfl)) (fun _ _ _ h => h) (Or.inl ⟨by rfl, ?_⟩) ?_ ?_
             (rotate_left; · (intro w'; go_simp; with_reducible rfl))
             (rotate_left; · (simp only [Act.put, zqk, zql, zqm, i64_w, i32_w]; rfl))
             refine take_ (i := 6) (N := some 34) (v := ?_) (a' := ?_) #[true, true, true, true, true, true, true, true, false, true, false, false, false, false, false] rfl rfl (take_ofW HT_.out HW_.out (by kernel_rfl)) (fun _ _ _ h => h) (Or.inl ⟨by rfl, ?_⟩) hHeld ?_ ?_
             rotate_left
             ·rintro w' ⟨s0, s1, s2, s3, s4, s5, s6⟩
              go_simp
              with_reducible rfl
             (rotate_left; · (simp only [Act.put, zqk, zql, zqm, i64_w, i32_w]; rfl))
             refine take_ (i := 8) (N := some 36) (v := ?_) (a' := ?_) #[true, true, true, true, true, true, true, true, true, true, false, false, false, false, false] rfl rfl (take_ofW HT_.out HW_.out (by kernel_rfl)) (fun _ _ _ h => h) (Or.inl ⟨by rfl, ?_⟩) hHeld ?_ ?_
             rotate_left
             ·rintro w' ⟨s0, s1, s2, s3, s4, s5, s6⟩
              go_simp
              with_reducible rfl
             (rotate_left; · (simp only [Act.put, zqk, zql, zqm, i64_w, i32_w]; rfl))
             refine pure_ (i := 10) (N := some 38) (v := ?_) (a' := ?_) #[true, true, true, true, true, true, true, true, true, true, true, false, false, false, false] rfl rfl (any_of HT_.out (by kernel_rfl)) (fun _ _ _ h => h) (Or.inl ⟨by rfl, ?_⟩) ?_ ?_
             (rotate_left; · (intro w'; go_simp; with_reducible rfl))
             (rotate_left; · (simp only [Act.put, zqk, zql, zqm, i64_w, i32_w]; rfl))
             refine pure_ (i := 11) (N := some 39) (v := ?_) (a' := ?_) #[true, true, true, true, true, true, true, true, true, true, true, true, false, false, false] rfl rfl (any_of HT_.out (by kernel_rfl)) (fun _ _ _ h => h) (Or.inl ⟨by rfl, ?_⟩) ?_ ?_
             (rotate_left; · (intro w'; go_simp; with_reducible rfl))
             (rotate_left; · (simp only [Act.put, zqk, zql, zqm, i64_w, i32_w]; rfl))
             refine take_ (i := 12) (N := some 40) (v := ?_) (a' := ?_) #[true, true, true, true, true, true, true, true, true, true, true, true, true, false, false] rfl rfl (take_ofW HT_.out HW_.out (by kernel_rfl)) (fun _ _ _ h => h) (Or.inl ⟨by rfl, ?_⟩) hHeld ?_ ?_
             rotate_left
             ·rintro w' ⟨s0, s1, s2, s3, s4, s5, s6⟩
              go_simp
              with_reducible rfl
             (rotate_left; · (simp only [Act.put, zqk, zql, zqm, i64_w, i32_w]; rfl))
             refine pure_ (i := 13) (N := some 41) (v := ?_) (a' := ?_) #[true, true, true, true, true, true, true, true, true, true, true, true, true, true, false] rfl rfl (any_of HT_.out (by kernel_rfl)) (fun _ _ _ h => h) (Or.inl ⟨by rfl, ?_⟩) ?_ ?_
             (rotate_left; · (intro w'; go_simp; with_reducible rfl))
             (rotate_left; · (simp only [Act.put, zqk, zql, zqm, i64_w, i32_w]; rfl))
             refine last_ (i := 14) (N := none) #[true, true, true, true, true, true, true, true, true, true, true, true, true, true, true] rfl rfl (one_of HT_.out (by kernel_rfl)) (by decide) (fun K hK => ?_)
             refine skip_ (w1 := ?_) (by rfl) rfl ?_ ?_
             rotate_left
             ·go_simp
              rfl
             refine hK.out _ _ ?_
             clear hK K
             refine done_ (done_of HT_.out (by kernel_rfl)) ?_
             try go_wp2
             go_roundg kj10
             case measure => have := HK1.out; have := HJ10.out; omega
             case rel => exact ⟨(y249), (wrap64 (x6_1 + 1)), (by first | rfl | (simp; done) | (simp [*]; done)), H', ⟨by have := HK1.out; have := HJ10.out; omega⟩, ⟨by (with_reducible repeat (first | apply Kd.R_alloc | apply Kd.R_drewN | apply Kd.R_drew)); exact HQ27.out⟩, ⟨by (with_reducible repeat (first | refine zqa ?_ _ | refine zqb ?_ | refine zqc ?_ _)); refine blk_far ?_ (by have h_ := Kd.R_ne HO_5.out BK238.out (by decide); intro e_; exact h_ (by rw [e_]; rfl)) _; (with_reducible repeat (first | refine zqa ?_ _ | refine zqb ?_ | refine zqc ?_ _)); exact BK238.out⟩, ⟨by (with_reducible repeat (first | refine zqa ?_ _ | refine zqb ?_ | refine zqc ?_ _)); refine blk_far ?_ (by have h_ := Kd.R_ne HO_5.out BK239.out (by decide); intro e_; exact h_ (by rw [e_]; rfl)) _; (with_reducible repeat (first | refine zqa ?_ _ | refine zqb ?_ | refine zqc ?_ _)); exact BK239.out⟩, ⟨by repeat (first | (with_reducible first | exact HB.out | apply zqg | apply zqe | apply zqf | refine zqd ?_ GB25.out | refine zqd ?_ GE238.out | refine zqd ?_ GE239.out) | exact HB.out)⟩⟩
            ·rw [if_neg c24] at H
             exact absurd H (by simp)
           ·rw [if_neg c23] at H
            exact absurd H (by simp)
          ·rw [if_neg c22] at H
           exact absurd H (by simp)
         ·replace c21 := Bool.eq_false_iff.mpr c21
          subst c21
          have H1 : (copyholdref04_Crash.l0 kj10 l1 x5_1 (wrap64 (x6_1 + 1)) l0_0 l0_1 a0_2) = some (r1, r2, r3) := by rw [if_neg (show ¬ (false = true) by decide)] at H; exact H
          clear H
          have H := H1
          clear H1
          have H' := zqj H
          clear H
          have p246 : 0 ≤ (x6_1 : Int) := zqh (by first | (with_reducible assumption) | assumption)
          have q246 : x6_1 < (l1.length : Int) := zqh (by first | (with_reducible assumption) | assumption)
          obtain ⟨ad246, e246, hx246_0⟩ := Kd.at_bool HR1.out x6_1 p246 q246
          (try rw [← Nbq20.out] at hx246_0)
          cases e246
          replace hx246_0 := (HB.out.cell (World.block_lt_of_cell? w _ hx246_0)).trans hx246_0
          replace p246 := eq_true p246
          replace q246 := eq_true q246
          go_wp2
          go_roundg kj10
          case measure => have := HK1.out; have := HJ10.out; omega
          case rel => exact ⟨(x5_1), (wrap64 (x6_1 + 1)), (by first | rfl | (simp; done) | (simp [*]; done)), H', ⟨by have := HK1.out; have := HJ10.out; omega⟩, ⟨by (with_reducible repeat (first | apply Kd.R_alloc | apply Kd.R_drewN | apply Kd.R_drew)); exact HO_5.out⟩, ⟨by (with_reducible repeat (first | refine zqa ?_ _ | refine zqb ?_ | refine zqc ?_ _)); exact BK238.out⟩, ⟨by (with_reducible repeat (first | refine zqa ?_ _ | refine zqb ?_ | refine zqc ?_ _)); exact BK239.out⟩, ⟨by repeat (first | (with_reducible first | exact HB.out | apply zqg | apply zqe | apply zqf | refine zqd ?_ GE238.out | refine zqd ?_ GE239.out) | exact HB.out)⟩⟩
        ·rw [if_neg c19] at H
         exact absurd H (by simp)
       ·rw [if_neg c18] at H
        exact absurd H (by simp)
      ·replace c17 := Bool.eq_false_iff.mpr c17
       subst c17
       have H1 : (some (x5_1, ([] : List (S88)), false)) = some (r1, r2, r3) := by rw [if_neg (show ¬ (false = true) by decide)] at H; exact H
       clear H
       have H := H1
       clear H1
       simp only [Option.some.injEq, Prod.mk.injEq] at H
       obtain ⟨rfl, rfl, rfl⟩ := H
       obtain ⟨Ao28, co28, eo28⟩ := Kd.R_slice HO_5.out
       subst eo28
       have hnb29 := NB239_238.out
       have hnc29 := NB238_239.out
       have hcz30_0 : wc.cell? ⟨gb239, 0, none⟩ = some (.slice none 0 0) := (blk_cell BK239.out 0).trans rfl
       have hcz30_1 : wc.cell? ⟨gb239, 1, none⟩ = some (.slice none 0 0) := (blk_cell BK239.out 1).trans rfl
       have hcz30_2 : wc.cell? ⟨gb239, 2, none⟩ = some (.bool false) := (blk_cell BK239.out 2).trans rfl
       (have hfz30_0 := zqi BK239.out 0; have hfz30_1 := zqi BK239.out 1; have hfz30_2 := zqi BK239.out 2)
       go_wp2
       refine bodyPost_ret (results_cell_row rfl _ _ gb239 25 #[.slice Ao28 x5_1.length co28, .slice none 0 0, .bool false] (0, 0) _ rfl (by (with_reducible repeat (first | refine zqa ?_ _ | refine zqb ?_ | refine zqc ?_ _)); refine blk_put (cs := #[.slice Ao28 x5_1.length co28, .slice none 0 0, .bool false]) ?_ 2 _ rfl; (with_reducible repeat (first | refine zqa ?_ _ | refine zqb ?_ | refine zqc ?_ _)); refine blk_put (cs := #[.slice Ao28 x5_1.length co28, .slice none 0 0, .bool false]) ?_ 1 _ rfl; (with_reducible repeat (first | refine zqa ?_ _ | refine zqb ?_ | refine zqc ?_ _)); refine blk_put (cs := #[.slice none 0 0, .slice none 0 0, .bool false]) ?_ 0 _ rfl; (with_reducible repeat (first | refine zqa ?_ _ | refine zqb ?_ | refine zqc ?_ _)); exact BK239.out) Try.underlying25 rfl (by kernel_rfl)) rfl ?_
       exact ⟨_, _, by first | rfl | (simp [errW_none, errW_some] <;> rfl) | (simp [*, errW_none, errW_some] <;> rfl), by (with_reducible repeat (first | apply Kd.R_alloc | apply Kd.R_drewN | apply Kd.R_drew)); exact Kd.R_mono (Kd.R_far (p := ⟨gb239, 2, none⟩) (Kd.R_far (p := ⟨gb239, 1, none⟩) (Kd.R_far (p := ⟨gb239, 0, none⟩) (Kd.R_types HO_5.out BK239.out (by decide)) (fun _ hk => hk.2) (.slice Ao28 x5_1.length co28)) (fun _ hk => hk.2) (.slice none 0 0)) (fun _ hk => hk.2) (.bool false)) (fun _ hk => trivial), by first | exact Kd.R_nil _ _ _ _ _ | exact Kd.N_nil _ _ _ _ _ | exact Kd.V_nil _ _ _ _ _ | exact Kd.Q_nil _ _ _ _ _ | exact Kd.S_nil _ _ _ _ _, by repeat (first | (with_reducible first | exact HB.out | apply zqg | apply zqe | apply zqf | refine zqd ?_ GE238.out | refine zqd ?_ GE239.out) | exact HB.out)⟩
 ·rw [if_neg c3] at H
  exact absurd H (by simp)
end Go.Proofs.Ytcbfnfggnocndaa.Q
