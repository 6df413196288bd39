import Derived.Test.YtcbfnfggnocndaaZRedoCr22
import Derived.Test.YtcbfnfggnocndaaZRedoCr32
import Derived.Test.YtcbfnfggnocndaaZRedoCr33
import Derived.Test.YtcbfnfggnocndaaZRedoCrA
set_option linter.unusedVariables false
set_option linter.unusedSimpArgs false
section
namespace Go.Proofs.Ytcbfnfggnocndaa.Q
open Go.RowKit Go.Proofs.YtcbfnfggnocndaaW.PrintWords Go.Proofs.YtcbfnfggnocndaaW.PrintLast Go.Proofs.YtcbfnfggnocndaaW.PrintMore
attribute [local go_sem] max2_int min2_int max_two min_two max_three min_three max_four min_four   -- for this text's walks alone
attribute [local go_sem high] Go.Proofs.Ytcbfnfggnocndaa.px_xor_u8 Go.Proofs.Ytcbfnfggnocndaa.px_xor_u16 Go.Proofs.Ytcbfnfggnocndaa.px_xor_u32 Go.Proofs.Ytcbfnfggnocndaa.px_xor_u64
mutual
def copyholdref04_Right.j0 : Nat → Bool → List ByteArray → List (S88) → Bool → Option (Bool)
 | 0, _, _, _, _ => none
 | k + 1, x14, x149000, x149001, x149002 => if x14 = true then (some false) else (copyholdref04_Right.l0 k 0 x149000 x149001 x149002)
def copyholdref04_Right.l0 : Nat → Int → List ByteArray → List (S88) → Bool → Option (Bool)
 | 0, _, _, _, _ => none
 | k + 1, x3, x149000, x149001, x149002 => if x3 < (x149000.length : Int) then (if 0 ≤ x3 then (if ((rdOf ByteArray.empty x149000 x3).size : Int) = 64 then (copyholdref04_Right.l0 k (wrap64 (x3 + 1)) x149000 x149001 x149002) else (some false)) else (none)) else (copyholdref04_Right.l1 k 0 x149000 x149001 x149002)
def copyholdref04_Right.l1 : Nat → Int → List ByteArray → List (S88) → Bool → Option (Bool)
 | 0, _, _, _, _ => none
 | k + 1, x4, x149000, x149001, x149002 => if x4 < (x149001.length : Int) then (if 0 ≤ x4 then (if ((rd_T88 x149001 x4).f0) < 0 then (some false) else (if ((rd_T88 x149001 x4).f0) ≥ (x149000.length : Int) then (some false) else (if (((rd_T88 x149001 x4).f1).size : Int) = 64 then (copyholdref04_Right.l1 k (wrap64 (x4 + 1)) x149000 x149001 x149002) else (some false)))) else (none)) else (some true)
end
def copyholdref04_Right.f (k : Nat) (l0_0 : List ByteArray) (l0_1 : List (S88)) (a0_2 : Bool) : Option (Bool) := if (l0_0.length : Int) < 1 then (copyholdref04_Right.j0 k true l0_0 l0_1 a0_2) else (copyholdref04_Right.j0 k (decide ((l0_0.length : Int) > 4096)) l0_0 l0_1 a0_2)
theorem copyholdref04_Right.mono_l : ∀ k, (∀ y0 y1 y2 y3, LeO (copyholdref04_Right.j0 k y0 y1 y2 y3) (copyholdref04_Right.j0 (k + 1) y0 y1 y2 y3)) ∧ (∀ y0 y1 y2 y3, LeO (copyholdref04_Right.l0 k y0 y1 y2 y3) (copyholdref04_Right.l0 (k + 1) y0 y1 y2 y3)) ∧ (∀ y0 y1 y2 y3, LeO (copyholdref04_Right.l1 k y0 y1 y2 y3) (copyholdref04_Right.l1 (k + 1) y0 y1 y2 y3))
 | 0 => ⟨fun _ _ _ _ r h => by simp [copyholdref04_Right.j0] at h, fun _ _ _ _ r h => by simp [copyholdref04_Right.l0] at h, fun _ _ _ _ r h => by simp [copyholdref04_Right.l1] at h⟩
 | k + 1 => by
  obtain ⟨ih0, ih1, ih2⟩ := copyholdref04_Right.mono_l k
  refine ⟨?_, ?_, ?_⟩
  ·intro y0 y1 y2 y3
   unfold copyholdref04_Right.j0
   repeat' first
   | (with_reducible exact ih0 _ _ _ _)
   | (with_reducible exact ih1 _ _ _ _)
   | (with_reducible exact ih2 _ _ _ _)
   | (with_reducible exact LeO.refl _)
   | (with_reducible exact LeO.none _)
   | (with_reducible refine LeO.ite ?_ ?_)
   | (with_reducible refine LeO.bind ?_ (fun _ => ?_))
   | exact ih0 _ _ _ _
   | exact ih1 _ _ _ _
   | exact ih2 _ _ _ _
   | exact LeO.none _
   | refine LeO.ite ?_ ?_
   | refine LeO.bind ?_ (fun _ => ?_)
  ·intro y0 y1 y2 y3
   unfold copyholdref04_Right.l0
   repeat' first
   | (with_reducible exact ih0 _ _ _ _)
   | (with_reducible exact ih1 _ _ _ _)
   | (with_reducible exact ih2 _ _ _ _)
   | (with_reducible exact LeO.refl _)
   | (with_reducible exact LeO.none _)
   | (with_reducible refine LeO.ite ?_ ?_)
   | (with_reducible refine LeO.bind ?_ (fun _ => ?_))
   | exact ih0 _ _ _ _
   | exact ih1 _ _ _ _
   | exact ih2 _ _ _ _
   | exact LeO.none _
   | refine LeO.ite ?_ ?_
   | refine LeO.bind ?_ (fun _ => ?_)
  ·intro y0 y1 y2 y3
   unfold copyholdref04_Right.l1
   repeat' first
   | (with_reducible exact ih0 _ _ _ _)
   | (with_reducible exact ih1 _ _ _ _)
   | (with_reducible exact ih2 _ _ _ _)
   | (with_reducible exact LeO.refl _)
   | (with_reducible exact LeO.none _)
   | (with_reducible refine LeO.ite ?_ ?_)
   | (with_reducible refine LeO.bind ?_ (fun _ => ?_))
   | exact ih0 _ _ _ _
   | exact ih1 _ _ _ _
   | exact ih2 _ _ _ _
   | exact LeO.none _
   | refine LeO.ite ?_ ?_
   | refine LeO.bind ?_ (fun _ => ?_)
theorem copyholdref04_Right.mono : ∀ a0 a1 a2 k, LeO (copyholdref04_Right.f k a0 a1 a2) (copyholdref04_Right.f (k + 1) a0 a1 a2) := by
 intro a0 a1 a2 k
 obtain ⟨ih0, ih1, ih2⟩ := copyholdref04_Right.mono_l k
 unfold copyholdref04_Right.f
 repeat' first
   | (with_reducible exact ih0 _ _ _ _)
   | (with_reducible exact ih1 _ _ _ _)
   | (with_reducible exact ih2 _ _ _ _)
   | (with_reducible exact LeO.refl _)
   | (with_reducible exact LeO.none _)
   | (with_reducible refine LeO.ite ?_ ?_)
   | (with_reducible refine LeO.bind ?_ (fun _ => ?_))
   | exact ih0 _ _ _ _
   | exact ih1 _ _ _ _
   | exact ih2 _ _ _ _
   | exact LeO.none _
   | refine LeO.ite ?_ ?_
   | refine LeO.bind ?_ (fun _ => ?_)
set_option maxHeartbeats 8000000 in
set_option maxRecDepth 100000 in
theorem copyholdref04_Right.calls (k : Nat) (A0_0 : Option Addr) (c0_0 : Nat) (l0_0 : List ByteArray) (A0_1 : Option Addr) (c0_1 : Nat) (l0_1 : List (S88)) (a0_2 : Bool) (r : Bool) (w : World) (hr0_0 : Kd.C Kd.string w A0_0 l0_0.length l0_0) (hc0_0 : l0_0.length ≤ c0_0) (hr0_1 : Kd.C k88 w A0_1 l0_1.length l0_1) (hc0_1 : l0_1.length ≤ c0_1) (h : copyholdref04_Right.f k l0_0 l0_1 a0_2 = some r) :
  Calls Try.prog 28 #[.agg #[.slice A0_0 l0_0.length c0_0, .slice A0_1 l0_1.length c0_1, .bool a0_2]] w fun e w' => e = .returned (.bool r) ∧ Below w.heap.size w w' := by
 have hu25 := Try.underlying25
 have HR0_0 := zqj hr0_0
 have HC0_0 := zqj hc0_0
 clear hr0_0 hc0_0
 have HR0_1 := zqj hr0_1
 have HC0_1 := zqj hc0_1
 clear hr0_1 hc0_1
 have HB := zqj (Below.refl w.heap.size w)
 have H : (if (l0_0.length : Int) < 1 then (copyholdref04_Right.j0 k true l0_0 l0_1 a0_2) else (copyholdref04_Right.j0 k (decide ((l0_0.length : Int) > 4096)) l0_0 l0_1 a0_2)) = some r := h
 clear h
 have HC2 := zqj H
 clear H
 go_enter Try.func28, Try.ntmps28
 go_upto_region 1 with (first | ((with_reducible refine gate_dst (N := 1) rfl ?_); (try (refine gate_guard (by rfl) ?_; dsimp only)); refine box_event ?hg (N := 1) ?hd (cs := #[.slice A0_0 l0_0.length c0_0, .slice A0_1 l0_1.length c0_1, .bool a0_2]) (t := 25) ?hr ?_; (case hd => rfl); (case hg => rfl); (case hr => first | (go_simp; done) | (go_simp; rfl)); intro gb148 hg w3 hbox hb; have n0_ := zqj (below_step (by repeat (first | (with_reducible first | exact HB.out | apply zqg | apply zqe | apply zqf) | exact HB.out)) hb); have n1_ := zqj (hbox); have n2_ := zqj ((by rw [hg]; exact (below_size (by repeat (first | (with_reducible first | exact HB.out | apply zqg | apply zqe | apply zqf) | exact HB.out))) : w.heap.size ≤ gb148)); have n3_ := zqj ((by rw [hg]; exact (below_size (by repeat (first | (with_reducible first | exact HB.out | apply zqg | apply zqe | apply zqf) | exact HB.out))) : w.heap.size ≤ gb148)); clear HB; have HB := n0_; have BK148 := n1_; have GW148 := n2_; have GE148 := n3_; clear n0_ n1_ n2_ n3_; clear hb hbox hg))
 repeat (go_quiet (first | ((with_reducible refine gate_dst (N := 1) rfl ?_); (try (refine gate_guard (by rfl) ?_; dsimp only)); refine box_event ?hg (N := 1) ?hd (cs := #[.slice A0_0 l0_0.length c0_0, .slice A0_1 l0_1.length c0_1, .bool a0_2]) (t := 25) ?hr ?_; (case hd => rfl); (case hg => rfl); (case hr => first | (go_simp; done) | (go_simp; rfl)); intro gb148 hg w3 hbox hb; have n0_ := zqj (below_step (by repeat (first | (with_reducible first | exact HB.out | apply zqg | apply zqe | apply zqf) | exact HB.out)) hb); have n1_ := zqj (hbox); have n2_ := zqj ((by rw [hg]; exact (below_size (by repeat (first | (with_reducible first | exact HB.out | apply zqg | apply zqe | apply zqf) | exact HB.out))) : w.heap.size ≤ gb148)); have n3_ := zqj ((by rw [hg]; exact (below_size (by repeat (first | (with_reducible first | exact HB.out | apply zqg | apply zqe | apply zqf) | exact HB.out))) : w.heap.size ≤ gb148)); clear HB; have HB := n0_; have BK148 := n1_; have GW148 := n2_; have GE148 := n3_; clear n0_ n1_ n2_ n3_; clear hb hbox hg)); go_upto_region 1 with (first | ((with_reducible refine gate_dst (N := 1) rfl ?_); (try (refine gate_guard (by rfl) ?_; dsimp only)); refine box_event ?hg (N := 1) ?hd (cs := #[.slice A0_0 l0_0.length c0_0, .slice A0_1 l0_1.length c0_1, .bool a0_2]) (t := 25) ?hr ?_; (case hd => rfl); (case hg => rfl); (case hr => first | (go_simp; done) | (go_simp; rfl)); intro gb148 hg w3 hbox hb; have n0_ := zqj (below_step (by repeat (first | (with_reducible first | exact HB.out | apply zqg | apply zqe | apply zqf) | exact HB.out)) hb); have n1_ := zqj (hbox); have n2_ := zqj ((by rw [hg]; exact (below_size (by repeat (first | (with_reducible first | exact HB.out | apply zqg | apply zqe | apply zqf) | exact HB.out))) : w.heap.size ≤ gb148)); have n3_ := zqj ((by rw [hg]; exact (below_size (by repeat (first | (with_reducible first | exact HB.out | apply zqg | apply zqe | apply zqf) | exact HB.out))) : w.heap.size ≤ gb148)); clear HB; have HB := n0_; have BK148 := n1_; have GW148 := n2_; have GE148 := n3_; clear n0_ n1_ n2_ n3_; clear hb hbox hg)))
 (try simp only [Act.put, zqk, zql, zqm])
 go_cut [14] (fun v14 wc => ∃ (kq : Nat) (x14_1 : Bool), v14 = .bool x14_1 ∧ Aside0 (copyholdref04_Right.j0 kq x14_1 l0_0 l0_1 a0_2 = some r) ∧ Aside0 (kq ≤ k) ∧ Aside0 (wc.heap[gb148]? = some (.cells #[(.slice A0_0 l0_0.length c0_0), (.slice A0_1 l0_1.length c0_1), .bool a0_2] 25 (0, 0))) ∧ Aside0 (Below w.heap.size w wc))
 case first =>
  (have H := HC2.out; clear HC2)
  by_cases c4 : (l0_0.length : Int) < 1
  ·rw [if_pos c4] at H
   have c4b0 : decide ((l0_0.length : Int) < 1) = true := decide_eq_true c4
   have c4b1 : decide (l0_0.length < 1) = true := decide_eq_true (by omega)
   clear c4
   (first | rw [c4b0] | (simp only [i64_w, i32_w]; rw [c4b0]) | skip)
   have H' := zqj H
   clear H
   have hcz5_0 : w3.cell? ⟨gb148, 0, none⟩ = some (.slice A0_0 l0_0.length c0_0) := (blk_cell BK148.out 0).trans rfl
   have hcz5_1 : w3.cell? ⟨gb148, 1, none⟩ = some (.slice A0_1 l0_1.length c0_1) := (blk_cell BK148.out 1).trans rfl
   have hcz5_2 : w3.cell? ⟨gb148, 2, none⟩ = some (.bool a0_2) := (blk_cell BK148.out 2).trans rfl
   (have hfz5_0 := zqi BK148.out 0; have hfz5_1 := zqi BK148.out 1; have hfz5_2 := zqi BK148.out 2)
   go_wp2
   repeat (go_quiet (fail); try go_wp2)
   go_meet
   case rel => exact ⟨_, (true), (by first | rfl | (simp; done) | (simp [*]; done)), H', ⟨by first | omega | exact Nat.le_refl _⟩, ⟨by (with_reducible repeat (first | refine zqa ?_ _ | refine zqb ?_ | refine zqc ?_ _)); exact BK148.out⟩, ⟨by repeat (first | (with_reducible first | exact HB.out | apply zqg | apply zqe | apply zqf | refine zqd ?_ GE148.out) | exact HB.out)⟩⟩
  ·rw [if_neg c4] at H
   have c4b0 : decide ((l0_0.length : Int) < 1) = false := decide_eq_false c4
   have c4b1 : decide (l0_0.length < 1) = false := decide_eq_false (by omega)
   clear c4
   (first | rw [c4b0] | (simp only [i64_w, i32_w]; rw [c4b0]) | skip)
   have H' := zqj H
   clear H
   have hcz6_0 : w3.cell? ⟨gb148, 0, none⟩ = some (.slice A0_0 l0_0.length c0_0) := (blk_cell BK148.out 0).trans rfl
   have hcz6_1 : w3.cell? ⟨gb148, 1, none⟩ = some (.slice A0_1 l0_1.length c0_1) := (blk_cell BK148.out 1).trans rfl
   have hcz6_2 : w3.cell? ⟨gb148, 2, none⟩ = some (.bool a0_2) := (blk_cell BK148.out 2).trans rfl
   (have hfz6_0 := zqi BK148.out 0; have hfz6_1 := zqi BK148.out 1; have hfz6_2 := zqi BK148.out 2)
   go_wp2
   repeat (go_quiet (fail); try go_wp2)
   go_meet
   case rel => exact ⟨_, (decide ((l0_0.length : Int) > 4096)), (by first | rfl | (simp; done) | (simp [*]; done)), H', ⟨by first | omega | exact Nat.le_refl _⟩, ⟨by (with_reducible repeat (first | refine zqa ?_ _ | refine zqb ?_ | refine zqc ?_ _)); exact BK148.out⟩, ⟨by repeat (first | (with_reducible first | exact HB.out | apply zqg | apply zqe | apply zqf | refine zqd ?_ GE148.out) | exact HB.out)⟩⟩
 case rest =>
  (clear HC2; (try clear c2); (try clear p2); (try clear c4); (try clear c4b0); (try clear c4b1); (try clear hcz5_0); (try clear hcz5_1); (try clear hcz5_2); (try clear hcz6_0); (try clear hcz6_1); (try clear hcz6_2); (try clear hfz5_0); (try clear hfz5_1); (try clear hfz5_2); (try clear hfz6_0); (try clear hfz6_1); (try clear hfz6_2))
  obtain ⟨kq, x14_1, rfl, HA, HJ1, BK148, HB⟩ := hcut
  cases kq with
  | zero => exact absurd HA.out (by simp [copyholdref04_Right.j0])
  | succ kj1 =>
   (have H := HA.out; clear HA)
   simp only [copyholdref04_Right.j0] at H
   by_cases c7 : x14_1 = true
   ·subst c7
    have H1 : (some false) = some r := by rw [if_pos rfl] at H; exact H
    clear H
    have H := H1
    clear H1
    obtain rfl := Option.some.inj H
    go_wp2
    repeat (go_quiet (fail); try go_wp2)
    go_ret
    exact ⟨by first | rfl | (simp [errW_none, errW_some] <;> rfl) | (simp [*, errW_none, errW_some] <;> rfl), by repeat (first | (with_reducible first | exact HB.out | apply zqg | apply zqe | apply zqf | refine zqd ?_ GE148.out) | exact HB.out)⟩
   ·replace c7 := Bool.eq_false_iff.mpr c7
    subst c7
    have H1 : (copyholdref04_Right.l0 kj1 0 l0_0 l0_1 a0_2) = some r := by rw [if_neg (show ¬ (false = true) by decide)] at H; exact H
    clear H
    have H := H1
    clear H1
    have H' := zqj H
    clear H
    go_wp2
    repeat (go_quiet (fail); try go_wp2)
    go_loopg [3] kj1 (fun kq v3 w' => ∃ (x3_2 : Int), v3 = .int .i64 x3_2 ∧ Aside0 (copyholdref04_Right.l0 kq x3_2 l0_0 l0_1 a0_2 = some r) ∧ Aside0 (kq ≤ kj1) ∧ Aside0 (w'.heap[gb148]? = some (.cells #[(.slice A0_0 l0_0.length c0_0), (.slice A0_1 l0_1.length c0_1), .bool a0_2] 25 (0, 0))) ∧ Aside0 (Below w.heap.size w w'))
    case atStart => exact ⟨(0), (by first | rfl | (simp; done) | (simp [*]; done)), H', ⟨Nat.le_refl _⟩, ⟨by (with_reducible repeat (first | refine zqa ?_ _ | refine zqb ?_ | refine zqc ?_ _)); exact BK148.out⟩, ⟨by repeat (first | (with_reducible first | exact HB.out | apply zqg | apply zqe | apply zqf | refine zqd ?_ GE148.out) | exact HB.out)⟩⟩
    case round =>
     clear H'
     ((try clear c2); (try clear p2); (try clear c4); (try clear c4b0); (try clear c4b1); (try clear c7); (try clear hcz5_0); (try clear hcz5_1); (try clear hcz5_2); (try clear hcz6_0); (try clear hcz6_1); (try clear hcz6_2); (try clear hfz5_0); (try clear hfz5_1); (try clear hfz5_2); (try clear hfz6_0); (try clear hfz6_1); (try clear hfz6_2); (try clear p2))
     obtain ⟨x3_2, rfl, HA, HK2, BK148, HB⟩ := hrel
     cases gk with
     | zero => exact absurd HA.out (by simp [copyholdref04_Right.l0])
     | succ k2 =>
      (have H := HA.out; clear HA)
      simp only [copyholdref04_Right.l0] at H
      by_cases c8 : x3_2 < (l0_0.length : Int)
      ·rw [if_pos c8] at H
       have c8b0 : decide (x3_2 < (l0_0.length : Int)) = true := decide_eq_true c8
       clear c8
       by_cases c9 : 0 ≤ x3_2
       ·rw [if_pos c9] at H
        have c9b0 : decide (0 ≤ x3_2) = true := decide_eq_true c9
        clear c9
        by_cases c10 : ((rdOf ByteArray.empty l0_0 x3_2).size : Int) = 64
        ·rw [if_pos c10] at H
         have c10b0 : (((rdOf ByteArray.empty l0_0 x3_2).size : Int) == 64) = true := beq_iff_eq.mpr c10
         have c10b1 : (((rdOf ByteArray.empty l0_0 x3_2).size : Int) != 64) = false := bne_eq_false_iff_eq.mpr c10
         clear c10
         have H' := zqj H
         clear H
         have hcz11_0 : wr.cell? ⟨gb148, 0, none⟩ = some (.slice A0_0 l0_0.length c0_0) := (blk_cell BK148.out 0).trans rfl
         have hcz11_1 : wr.cell? ⟨gb148, 1, none⟩ = some (.slice A0_1 l0_1.length c0_1) := (blk_cell BK148.out 1).trans rfl
         have hcz11_2 : wr.cell? ⟨gb148, 2, none⟩ = some (.bool a0_2) := (blk_cell BK148.out 2).trans rfl
         (have hfz11_0 := zqi BK148.out 0; have hfz11_1 := zqi BK148.out 1; have hfz11_2 := zqi BK148.out 2)
         have p149 : 0 ≤ (x3_2 : Int) := zqh (by first | (with_reducible assumption) | assumption)
         have q149 : x3_2 < (l0_0.length : Int) := zqh (by first | (with_reducible assumption) | assumption)
         obtain ⟨ad149, e149, hx149_0⟩ := Kd.at_string HR0_0.out x3_2 p149 q149
         cases e149
         replace hx149_0 := (HB.out.cell (World.block_lt_of_cell? w _ hx149_0)).trans hx149_0
         replace p149 := eq_true p149
         replace q149 := eq_true q149
         go_wp2
         repeat (go_quiet (fail); try go_wp2)
         go_roundg k2
         case measure => have := HJ1.out; have := HK2.out; omega
         case rel => exact ⟨(wrap64 (x3_2 + 1)), (by first | rfl | (simp; done) | (simp [*]; done)), H', ⟨by have := HJ1.out; have := HK2.out; omega⟩, ⟨by (with_reducible repeat (first | refine zqa ?_ _ | refine zqb ?_ | refine zqc ?_ _)); exact BK148.out⟩, ⟨by repeat (first | (with_reducible first | exact HB.out | apply zqg | apply zqe | apply zqf | refine zqd ?_ GE148.out) | exact HB.out)⟩⟩
        ·rw [if_neg c10] at H
         have c10b0 : (((rdOf ByteArray.empty l0_0 x3_2).size : Int) == 64) = false := beq_eq_false_iff_ne.mpr c10
         have c10b1 : (((rdOf ByteArray.empty l0_0 x3_2).size : Int) != 64) = true := bne_iff_ne.mpr c10
         obtain rfl := Option.some.inj H
         have hcz12_0 : wr.cell? ⟨gb148, 0, none⟩ = some (.slice A0_0 l0_0.length c0_0) := (blk_cell BK148.out 0).trans rfl
         have hcz12_1 : wr.cell? ⟨gb148, 1, none⟩ = some (.slice A0_1 l0_1.length c0_1) := (blk_cell BK148.out 1).trans rfl
         have hcz12_2 : wr.cell? ⟨gb148, 2, none⟩ = some (.bool a0_2) := (blk_cell BK148.out 2).trans rfl
         (have hfz12_0 := zqi BK148.out 0; have hfz12_1 := zqi BK148.out 1; have hfz12_2 := zqi BK148.out 2)
         have p149 : 0 ≤ (x3_2 : Int) := zqh (by first | (with_reducible assumption) | assumption)
         have q149 : x3_2 < (l0_0.length : Int) := zqh (by first | (with_reducible assumption) | assumption)
         obtain ⟨ad149, e149, hx149_0⟩ := Kd.at_string HR0_0.out x3_2 p149 q149
         cases e149
         replace hx149_0 := (HB.out.cell (World.block_lt_of_cell? w _ hx149_0)).trans hx149_0
         replace p149 := eq_true p149
         replace q149 := eq_true q149
         go_wp2
         repeat (go_quiet (fail); try go_wp2)
         go_ret
         exact ⟨by first | rfl | (simp [errW_none, errW_some] <;> rfl) | (simp [*, errW_none, errW_some] <;> rfl), by repeat (first | (with_reducible first | exact HB.out | apply zqg | apply zqe | apply zqf | refine zqd ?_ GE148.out) | exact HB.out)⟩
       ·rw [if_neg c9] at H
        exact absurd H (by simp)
      ·rw [if_neg c8] at H
       have c8b0 : decide (x3_2 < (l0_0.length : Int)) = false := decide_eq_false c8
       clear c8
       have H' := zqj H
       clear H
       have hcz13_0 : wr.cell? ⟨gb148, 0, none⟩ = some (.slice A0_0 l0_0.length c0_0) := (blk_cell BK148.out 0).trans rfl
       have hcz13_1 : wr.cell? ⟨gb148, 1, none⟩ = some (.slice A0_1 l0_1.length c0_1) := (blk_cell BK148.out 1).trans rfl
       have hcz13_2 : wr.cell? ⟨gb148, 2, none⟩ = some (.bool a0_2) := (blk_cell BK148.out 2).trans rfl
       (have hfz13_0 := zqi BK148.out 0; have hfz13_1 := zqi BK148.out 1; have hfz13_2 := zqi BK148.out 2)
       go_wp2
       repeat (go_quiet (fail); try go_wp2)
       go_loopg [4] k2 (fun kq v4 w' => ∃ (x4_3 : Int), v4 = .int .i64 x4_3 ∧ Aside0 (copyholdref04_Right.l1 kq x4_3 l0_0 l0_1 a0_2 = some r) ∧ Aside0 (kq ≤ k2) ∧ Aside0 (w'.heap[gb148]? = some (.cells #[(.slice A0_0 l0_0.length c0_0), (.slice A0_1 l0_1.length c0_1), .bool a0_2] 25 (0, 0))) ∧ Aside0 (Below w.heap.size w w'))
       case atStart => exact ⟨(0), (by first | rfl | (simp; done) | (simp [*]; done)), H', ⟨Nat.le_refl _⟩, ⟨by (with_reducible repeat (first | refine zqa ?_ _ | refine zqb ?_ | refine zqc ?_ _)); exact BK148.out⟩, ⟨by repeat (first | (with_reducible first | exact HB.out | apply zqg | apply zqe | apply zqf | refine zqd ?_ GE148.out) | exact HB.out)⟩⟩
       case round =>
        clear H'
        ((try clear c1); (try clear p1); (try clear q1); (try clear hx1); (try clear c2); (try clear p2); (try clear c4); (try clear c4b0); (try clear c4b1); (try clear p6); (try clear c7); (try clear c8); (try clear c8b0); (try clear c9); (try clear c9b0); (try clear c10); (try clear c10b0); (try clear c10b1); (try clear hcz11_0); (try clear hcz11_1); (try clear hcz11_2); (try clear hcz12_0); (try clear hcz12_1); (try clear hcz12_2); (try clear hcz13_0); (try clear hcz13_1); (try clear hcz13_2); (try clear hcz5_0); (try clear hcz5_1); (try clear hcz5_2); (try clear hcz6_0); (try clear hcz6_1); (try clear hcz6_2); (try clear hfz11_0); (try clear hfz11_1); (try clear hfz11_2); (try clear hfz12_0); (try clear hfz12_1); (try clear hfz12_2); (try clear hfz13_0); (try clear hfz13_1); (try clear hfz13_2); (try clear hfz5_0); (try clear hfz5_1); (try clear hfz5_2); (try clear hfz6_0); (try clear hfz6_1); (try clear hfz6_2); (try clear hx149_0); (try clear p149); (try clear p2); (try clear q149))
        obtain ⟨x4_3, rfl, HA, HK3, BK148, HB⟩ := hrel
        cases gk with
        | zero => exact absurd HA.out (by simp [copyholdref04_Right.l1])
        | succ k3 =>
         (have H := HA.out; clear HA)
         simp only [copyholdref04_Right.l1] at H
         by_cases c14 : x4_3 < (l0_1.length : Int)
         ·rw [if_pos c14] at H
          have c14b0 : decide (x4_3 < (l0_1.length : Int)) = true := decide_eq_true c14
          clear c14
          by_cases c15 : 0 ≤ x4_3
          ·rw [if_pos c15] at H
           have c15b0 : decide (0 ≤ x4_3) = true := decide_eq_true c15
           clear c15
           by_cases c16 : ((rd_T88 l0_1 x4_3).f0) < 0
           ·rw [if_pos c16] at H
            have c16b0 : decide (((rd_T88 l0_1 x4_3).f0) < 0) = true := decide_eq_true c16
            clear c16
            obtain rfl := Option.some.inj H
            have hcz17_0 : wr.cell? ⟨gb148, 0, none⟩ = some (.slice A0_0 l0_0.length c0_0) := (blk_cell BK148.out 0).trans rfl
            have hcz17_1 : wr.cell? ⟨gb148, 1, none⟩ = some (.slice A0_1 l0_1.length c0_1) := (blk_cell BK148.out 1).trans rfl
            have hcz17_2 : wr.cell? ⟨gb148, 2, none⟩ = some (.bool a0_2) := (blk_cell BK148.out 2).trans rfl
            (have hfz17_0 := zqi BK148.out 0; have hfz17_1 := zqi BK148.out 1; have hfz17_2 := zqi BK148.out 2)
            have p150 : 0 ≤ (x4_3 : Int) := zqh (by first | (with_reducible assumption) | assumption)
            have q150 : x4_3 < (l0_1.length : Int) := zqh (by first | (with_reducible assumption) | assumption)
            obtain ⟨ad150, e150, hx150_0, hx150_1⟩ := at_T88 HR0_1.out x4_3 p150 q150
            cases e150
            replace hx150_0 := (HB.out.cell (World.block_lt_of_cell? w _ hx150_0)).trans hx150_0
            replace hx150_1 := (HB.out.cell (World.block_lt_of_cell? w _ hx150_1)).trans hx150_1
            replace p150 := eq_true p150
            replace q150 := eq_true q150
            go_wp2
            repeat (go_quiet (fail); try go_wp2)
            go_ret
            exact ⟨by first | rfl | (simp [errW_none, errW_some] <;> rfl) | (simp [*, errW_none, errW_some] <;> rfl), by repeat (first | (with_reducible first | exact HB.out | apply zqg | apply zqe | apply zqf | refine zqd ?_ GE148.out) | exact HB.out)⟩
           ·rw [if_neg c16] at H
            have c16b0 : decide (((rd_T88 l0_1 x4_3).f0) < 0) = false := decide_eq_false c16
            clear c16
            by_cases c18 : ((rd_T88 l0_1 x4_3).f0) ≥ (l0_0.length : Int)
            ·rw [if_pos c18] at H
             have c18b0 : decide ((l0_0.length : Int) ≤ ((rd_T88 l0_1 x4_3).f0)) = true := decide_eq_true c18
             clear c18
             obtain rfl := Option.some.inj H
             have hcz19_0 : wr.cell? ⟨gb148, 0, none⟩ = some (.slice A0_0 l0_0.length c0_0) := (blk_cell BK148.out 0).trans rfl
             have hcz19_1 : wr.cell? ⟨gb148, 1, none⟩ = some (.slice A0_1 l0_1.length c0_1) := (blk_cell BK148.out 1).trans rfl
             have hcz19_2 : wr.cell? ⟨gb148, 2, none⟩ = some (.bool a0_2) := (blk_cell BK148.out 2).trans rfl
             (have hfz19_0 := zqi BK148.out 0; have hfz19_1 := zqi BK148.out 1; have hfz19_2 := zqi BK148.out 2)
             have p150 : 0 ≤ (x4_3 : Int) := zqh (by first | (with_reducible assumption) | assumption)
             have q150 : x4_3 < (l0_1.length : Int) := zqh (by first | (with_reducible assumption) | assumption)
             obtain ⟨ad150, e150, hx150_0, hx150_1⟩ := at_T88 HR0_1.out x4_3 p150 q150
             cases e150
             replace hx150_0 := (HB.out.cell (World.block_lt_of_cell? w _ hx150_0)).trans hx150_0
             replace hx150_1 := (HB.out.cell (World.block_lt_of_cell? w _ hx150_1)).trans hx150_1
             replace p150 := eq_true p150
             replace q150 := eq_true q150
             have p151 : 0 ≤ (x4_3 : Int) := zqh (by first | (with_reducible assumption) | assumption)
             have q151 : x4_3 < (l0_1.length : Int) := zqh (by first | (with_reducible assumption) | assumption)
             obtain ⟨ad151, e151, hx151_0, hx151_1⟩ := at_T88 HR0_1.out x4_3 p151 q151
             obtain rfl : ad150 = ad151 := (by injection e151)
             replace hx151_0 := (HB.out.cell (World.block_lt_of_cell? w _ hx151_0)).trans hx151_0
             replace hx151_1 := (HB.out.cell (World.block_lt_of_cell? w _ hx151_1)).trans hx151_1
             replace p151 := eq_true p151
             replace q151 := eq_true q151
             go_wp2
             repeat (go_quiet (fail); try go_wp2)
             go_ret
             exact ⟨by first | rfl | (simp [errW_none, errW_some] <;> rfl) | (simp [*, errW_none, errW_some] <;> rfl), by repeat (first | (with_reducible first | exact HB.out | apply zqg | apply zqe | apply zqf | refine zqd ?_ GE148.out) | exact HB.out)⟩
            ·rw [if_neg c18] at H
             have c18b0 : decide ((l0_0.length : Int) ≤ ((rd_T88 l0_1 x4_3).f0)) = false := decide_eq_false c18
             clear c18
             by_cases c20 : (((rd_T88 l0_1 x4_3).f1).size : Int) = 64
             ·rw [if_pos c20] at H
              have c20b0 : ((((rd_T88 l0_1 x4_3).f1).size : Int) == 64) = true := beq_iff_eq.mpr c20
              have c20b1 : ((((rd_T88 l0_1 x4_3).f1).size : Int) != 64) = false := bne_eq_false_iff_eq.mpr c20
              clear c20
              have H' := zqj H
              clear H
              have hcz21_0 : wr.cell? ⟨gb148, 0, none⟩ = some (.slice A0_0 l0_0.length c0_0) := (blk_cell BK148.out 0).trans rfl
              have hcz21_1 : wr.cell? ⟨gb148, 1, none⟩ = some (.slice A0_1 l0_1.length c0_1) := (blk_cell BK148.out 1).trans rfl
              have hcz21_2 : wr.cell? ⟨gb148, 2, none⟩ = some (.bool a0_2) := (blk_cell BK148.out 2).trans rfl
              (have hfz21_0 := zqi BK148.out 0; have hfz21_1 := zqi BK148.out 1; have hfz21_2 := zqi BK148.out 2)
              have p150 : 0 ≤ (x4_3 : Int) := zqh (by first | (with_reducible assumption) | assumption)
              have q150 : x4_3 < (l0_1.length : Int) := zqh (by first | (with_reducible assumption) | assumption)
              obtain ⟨ad150, e150, hx150_0, hx150_1⟩ := at_T88 HR0_1.out x4_3 p150 q150
              cases e150
              replace hx150_0 := (HB.out.cell (World.block_lt_of_cell? w _ hx150_0)).trans hx150_0
              replace hx150_1 := (HB.out.cell (World.block_lt_of_cell? w _ hx150_1)).trans hx150_1
              replace p150 := eq_true p150
              replace q150 := eq_true q150
              have p151 : 0 ≤ (x4_3 : Int) := zqh (by first | (with_reducible assumption) | assumption)
              have q151 : x4_3 < (l0_1.length : Int) := zqh (by first | (with_reducible assumption) | assumption)
              obtain ⟨ad151, e151, hx151_0, hx151_1⟩ := at_T88 HR0_1.out x4_3 p151 q151
              obtain rfl : ad150 = ad151 := (by injection e151)
              replace hx151_0 := (HB.out.cell (World.block_lt_of_cell? w _ hx151_0)).trans hx151_0
              replace hx151_1 := (HB.out.cell (World.block_lt_of_cell? w _ hx151_1)).trans hx151_1
              replace p151 := eq_true p151
              replace q151 := eq_true q151
              have p152 : 0 ≤ (x4_3 : Int) := zqh (by first | (with_reducible assumption) | assumption)
              have q152 : x4_3 < (l0_1.length : Int) := zqh (by first | (with_reducible assumption) | assumption)
              obtain ⟨ad152, e152, hx152_0, hx152_1⟩ := at_T88 HR0_1.out x4_3 p152 q152
              obtain rfl : ad150 = ad152 := (by injection e152)
              replace hx152_0 := (HB.out.cell (World.block_lt_of_cell? w _ hx152_0)).trans hx152_0
              replace hx152_1 := (HB.out.cell (World.block_lt_of_cell? w _ hx152_1)).trans hx152_1
              replace p152 := eq_true p152
              replace q152 := eq_true q152
              go_wp2
              repeat (go_quiet (fail); try go_wp2)
              go_roundg k3
              case measure => have := HJ1.out; have := HK2.out; have := HK3.out; omega
              case rel => exact ⟨(wrap64 (x4_3 + 1)), (by first | rfl | (simp; done) | (simp [*]; done)), H', ⟨by have := HJ1.out; have := HK2.out; have := HK3.out; omega⟩, ⟨by (with_reducible repeat (first | refine zqa ?_ _ | refine zqb ?_ | refine zqc ?_ _)); exact BK148.out⟩, ⟨by repeat (first | (with_reducible first | exact HB.out | apply zqg | apply zqe | apply zqf | refine zqd ?_ GE148.out) | exact HB.out)⟩⟩
             ·rw [if_neg c20] at H
              have c20b0 : ((((rd_T88 l0_1 x4_3).f1).size : Int) == 64) = false := beq_eq_false_iff_ne.mpr c20
              have c20b1 : ((((rd_T88 l0_1 x4_3).f1).size : Int) != 64) = true := bne_iff_ne.mpr c20
              obtain rfl := Option.some.inj H
              have hcz22_0 : wr.cell? ⟨gb148, 0, none⟩ = some (.slice A0_0 l0_0.length c0_0) := (blk_cell BK148.out 0).trans rfl
              have hcz22_1 : wr.cell? ⟨gb148, 1, none⟩ = some (.slice A0_1 l0_1.length c0_1) := (blk_cell BK148.out 1).trans rfl
              have hcz22_2 : wr.cell? ⟨gb148, 2, none⟩ = some (.bool a0_2) := (blk_cell BK148.out 2).trans rfl
              (have hfz22_0 := zqi BK148.out 0; have hfz22_1 := zqi BK148.out 1; have hfz22_2 := zqi BK148.out 2)
              have p150 : 0 ≤ (x4_3 : Int) := zqh (by first | (with_reducible assumption) | assumption)
              have q150 : x4_3 < (l0_1.length : Int) := zqh (by first | (with_reducible assumption) | assumption)
              obtain ⟨ad150, e150, hx150_0, hx150_1⟩ := at_T88 HR0_1.out x4_3 p150 q150
              cases e150
              replace hx150_0 := (HB.out.cell (World.block_lt_of_cell? w _ hx150_0)).trans hx150_0
              replace hx150_1 := (HB.out.cell (World.block_lt_of_cell? w _ hx150_1)).trans hx150_1
              replace p150 := eq_true p150
              replace q150 := eq_true q150
              have p151 : 0 ≤ (x4_3 : Int) := zqh (by first | (with_reducible assumption) | assumption)
              have q151 : x4_3 < (l0_1.length : Int) := zqh (by first | (with_reducible assumption) | assumption)
              obtain ⟨ad151, e151, hx151_0, hx151_1⟩ := at_T88 HR0_1.out x4_3 p151 q151
              obtain rfl : ad150 = ad151 := (by injection e151)
              replace hx151_0 := (HB.out.cell (World.block_lt_of_cell? w _ hx151_0)).trans hx151_0
              replace hx151_1 := (HB.out.cell (World.block_lt_of_cell? w _ hx151_1)).trans hx151_1
              replace p151 := eq_true p151
              replace q151 := eq_true q151
              have p152 : 0 ≤ (x4_3 : Int) := zqh (by first | (with_reducible assumption) | assumption)
              have q152 : x4_3 < (l0_1.length : Int) := zqh (by first | (with_reducible assumption) | assumption)
              obtain ⟨ad152, e152, hx152_0, hx152_1⟩ := at_T88 HR0_1.out x4_3 p152 q152
              obtain rfl : ad150 = ad152 := (by injection e152)
              replace hx152_0 := (HB.out.cell (World.block_lt_of_cell? w _ hx152_0)).trans hx152_0
              replace hx152_1 := (HB.out.cell (World.block_lt_of_cell? w _ hx152_1)).trans hx152_1
              replace p152 := eq_true p152
              replace q152 := eq_true q152
              go_wp2
              repeat (go_quiet (fail); try go_wp2)
              go_ret
              exact ⟨by first | rfl | (simp [errW_none, errW_some] <;> rfl) | (simp [*, errW_none, errW_some] <;> rfl), by repeat (first | (with_reducible first | exact HB.out | apply zqg | apply zqe | apply zqf | refine zqd ?_ GE148.out) | exact HB.out)⟩
          ·rw [if_neg c15] at H
           exact absurd H (by simp)
         ·rw [if_neg c14] at H
          have c14b0 : decide (x4_3 < (l0_1.length : Int)) = false := decide_eq_false c14
          clear c14
          obtain rfl := Option.some.inj H
          have hcz23_0 : wr.cell? ⟨gb148, 0, none⟩ = some (.slice A0_0 l0_0.length c0_0) := (blk_cell BK148.out 0).trans rfl
          have hcz23_1 : wr.cell? ⟨gb148, 1, none⟩ = some (.slice A0_1 l0_1.length c0_1) := (blk_cell BK148.out 1).trans rfl
          have hcz23_2 : wr.cell? ⟨gb148, 2, none⟩ = some (.bool a0_2) := (blk_cell BK148.out 2).trans rfl
          (have hfz23_0 := zqi BK148.out 0; have hfz23_1 := zqi BK148.out 1; have hfz23_2 := zqi BK148.out 2)
          go_wp2
          repeat (go_quiet (fail); try go_wp2)
          go_ret
          exact ⟨by first | rfl | (simp [errW_none, errW_some] <;> rfl) | (simp [*, errW_none, errW_some] <;> rfl), by repeat (first | (with_reducible first | exact HB.out | apply zqg | apply zqe | apply zqf | refine zqd ?_ GE148.out) | exact HB.out)⟩
def copyholdlaw05_few.f (k : Nat) (l0_0 : List ByteArray) (l0_1 : List (S88)) (a0_2 : Bool) : Option (Bool) := if (l0_0.length : Int) ≤ 40 then (if (l0_1.length : Int) ≤ 60 then ((copyholdref04_Right.f k l0_0 l0_1 a0_2).bind fun t154 => (some t154)) else (some false)) else (some false)
theorem copyholdlaw05_few.mono : ∀ a0 a1 a2 k, LeO (copyholdlaw05_few.f k a0 a1 a2) (copyholdlaw05_few.f (k + 1) a0 a1 a2) := by
 intro a0 a1 a2 k
 unfold copyholdlaw05_few.f
 repeat' first
   | (with_reducible exact copyholdref04_Right.mono _ _ _ _)
   | (with_reducible exact LeO.refl _)
   | (with_reducible exact LeO.none _)
   | (with_reducible refine LeO.ite ?_ ?_)
   | (with_reducible refine LeO.bind ?_ (fun _ => ?_))
   | exact copyholdref04_Right.mono _ _ _ _
   | exact LeO.none _
   | refine LeO.ite ?_ ?_
   | refine LeO.bind ?_ (fun _ => ?_)
set_option maxHeartbeats 8000000 in
set_option maxRecDepth 100000 in
theorem copyholdlaw05_few.calls (k : Nat) (A0_0 : Option Addr) (c0_0 : Nat) (l0_0 : List ByteArray) (A0_1 : Option Addr) (c0_1 : Nat) (l0_1 : List (S88)) (a0_2 : Bool) (r : Bool) (w : World) (hr0_0 : Kd.C Kd.string w A0_0 l0_0.length l0_0) (hc0_0 : l0_0.length ≤ c0_0) (hr0_1 : Kd.C k88 w A0_1 l0_1.length l0_1) (hc0_1 : l0_1.length ≤ c0_1) (h : copyholdlaw05_few.f k l0_0 l0_1 a0_2 = some r) :
  Calls Try.prog 11 #[.agg #[.slice A0_0 l0_0.length c0_0, .slice A0_1 l0_1.length c0_1, .bool a0_2]] w fun e w' => e = .returned (.bool r) ∧ Below w.heap.size w w' := by
 have hu25 := Try.underlying25
 have HR0_0 := zqj hr0_0
 have HC0_0 := zqj hc0_0
 clear hr0_0 hc0_0
 have HR0_1 := zqj hr0_1
 have HC0_1 := zqj hc0_1
 clear hr0_1 hc0_1
 have HB := zqj (Below.refl w.heap.size w)
 have H : (if (l0_0.length : Int) ≤ 40 then (if (l0_1.length : Int) ≤ 60 then ((copyholdref04_Right.f k l0_0 l0_1 a0_2).bind fun t154 => (some t154)) else (some false)) else (some false)) = some r := h
 clear h
 by_cases c2 : (l0_0.length : Int) ≤ 40
 ·rw [if_pos c2] at H
  have c2b0 : decide ((l0_0.length : Int) ≤ 40) = true := decide_eq_true c2
  have c2b1 : decide (l0_0.length ≤ 40) = true := decide_eq_true (by omega)
  clear c2
  by_cases c3 : (l0_1.length : Int) ≤ 60
  ·rw [if_pos c3] at H
   have c3b0 : decide ((l0_1.length : Int) ≤ 60) = true := decide_eq_true c3
   have c3b1 : decide (l0_1.length ≤ 60) = true := decide_eq_true (by omega)
   clear c3
   replace H := zqn H
   obtain ⟨t154, A40, H⟩ := H
   replace H : (some t154) = some r := H
   have A4 := zqj A40
   clear A40
   obtain rfl := Option.some.inj H
   go_enter Try.func11, Try.ntmps11
   go_wp2_with (first | ((with_reducible refine gate_dst (N := 1) rfl ?_); (try (refine gate_guard (by rfl) ?_; dsimp only)); refine box_event ?hg (N := 1) ?hd (cs := #[.slice A0_0 l0_0.length c0_0, .slice A0_1 l0_1.length c0_1, .bool a0_2]) (t := 25) ?hr ?_; (case hd => rfl); (case hg => rfl); (case hr => first | (go_simp; done) | (go_simp; rfl)); intro gb153 hg w5 hbox hb; have n0_ := zqj (below_step (by repeat (first | (with_reducible first | exact HB.out | apply zqg | apply zqe | apply zqf) | exact HB.out)) hb); have n1_ := zqj (hbox); have n2_ := zqj ((by rw [hg]; exact (below_size (by repeat (first | (with_reducible first | exact HB.out | apply zqg | apply zqe | apply zqf) | exact HB.out))) : w.heap.size ≤ gb153)); have n3_ := zqj ((by rw [hg]; exact (below_size (by repeat (first | (with_reducible first | exact HB.out | apply zqg | apply zqe | apply zqf) | exact HB.out))) : w.heap.size ≤ gb153)); clear HB; have HB := n0_; have BK153 := n1_; have GW153 := n2_; have GE153 := n3_; clear n0_ n1_ n2_ n3_; clear hb hbox hg; have hcz6_0 : w5.cell? ⟨gb153, 0, none⟩ = some (.slice A0_0 l0_0.length c0_0) := (blk_cell BK153.out 0).trans rfl; have hcz6_1 : w5.cell? ⟨gb153, 1, none⟩ = some (.slice A0_1 l0_1.length c0_1) := (blk_cell BK153.out 1).trans rfl; have hcz6_2 : w5.cell? ⟨gb153, 2, none⟩ = some (.bool a0_2) := (blk_cell BK153.out 2).trans rfl; have hfz6_0 := zqi BK153.out 0; have hfz6_1 := zqi BK153.out 1; have hfz6_2 := zqi BK153.out 2) | (go_at_call 28; (with_reducible refine (copyholdref04_Right.calls k _ _ l0_0 _ _ l0_1 a0_2 t154 _ ?side1 ?side2 ?side3 ?side4 A4.out).mono ?_); (case side1 => repeat (first | exact (Kd.C_below HR0_0.out HB.out) | (with_reducible refine Kd.C_alloc ?_ _) | (with_reducible refine Kd.C_drewN ?_ _) | (with_reducible refine Kd.C_drew ?_))); (case side2 => exact HC0_0.out); (case side3 => repeat (first | exact (Kd.C_below HR0_1.out HB.out) | (with_reducible refine Kd.C_alloc ?_ _) | (with_reducible refine Kd.C_drewN ?_ _) | (with_reducible refine Kd.C_drew ?_))); (case side4 => exact HC0_1.out); rintro e w7 ⟨rfl, hb⟩; have n0_ := zqj (blk_below (g := gb153) (o := .cells #[.slice A0_0 l0_0.length c0_0, .slice A0_1 l0_1.length c0_1, .bool a0_2] 25 (0, 0)) (by (with_reducible repeat (first | refine zqa ?_ _ | refine zqb ?_ | refine zqc ?_ _)); exact BK153.out) hb); have n1_ := zqj (below_step (by repeat (first | (with_reducible first | exact HB.out | apply zqg | apply zqe | apply zqf | refine zqd ?_ GE153.out) | exact HB.out)) hb); clear BK153; clear HB; have BK153 := n0_; have HB := n1_; clear n0_ n1_; (try clear hb); (try clear hb2); (try clear hk); (try clear hi)))
   go_ret
   exact ⟨by first | rfl | (simp [errW_none, errW_some] <;> rfl) | (simp [*, errW_none, errW_some] <;> rfl), by repeat (first | (with_reducible first | exact HB.out | apply zqg | apply zqe | apply zqf | refine zqd ?_ GE153.out) | exact HB.out)⟩
  ·rw [if_neg c3] at H
   have c3b0 : decide ((l0_1.length : Int) ≤ 60) = false := decide_eq_false c3
   have c3b1 : decide (l0_1.length ≤ 60) = false := decide_eq_false (by omega)
   clear c3
   obtain rfl := Option.some.inj H
   go_enter Try.func11, Try.ntmps11
   go_wp2_with (first | ((with_reducible refine gate_dst (N := 1) rfl ?_); (try (refine gate_guard (by rfl) ?_; dsimp only)); refine box_event ?hg (N := 1) ?hd (cs := #[.slice A0_0 l0_0.length c0_0, .slice A0_1 l0_1.length c0_1, .bool a0_2]) (t := 25) ?hr ?_; (case hd => rfl); (case hg => rfl); (case hr => first | (go_simp; done) | (go_simp; rfl)); intro gb153 hg w8 hbox hb; have n0_ := zqj (below_step (by repeat (first | (with_reducible first | exact HB.out | apply zqg | apply zqe | apply zqf) | exact HB.out)) hb); have n1_ := zqj (hbox); have n2_ := zqj ((by rw [hg]; exact (below_size (by repeat (first | (with_reducible first | exact HB.out | apply zqg | apply zqe | apply zqf) | exact HB.out))) : w.heap.size ≤ gb153)); have n3_ := zqj ((by rw [hg]; exact (below_size (by repeat (first | (with_reducible first | exact HB.out | apply zqg | apply zqe | apply zqf) | exact HB.out))) : w.heap.size ≤ gb153)); clear HB; have HB := n0_; have BK153 := n1_; have GW153 := n2_; have GE153 := n3_; clear n0_ n1_ n2_ n3_; clear hb hbox hg; have hcz9_0 : w8.cell? ⟨gb153, 0, none⟩ = some (.slice A0_0 l0_0.length c0_0) := (blk_cell BK153.out 0).trans rfl; have hcz9_1 : w8.cell? ⟨gb153, 1, none⟩ = some (.slice A0_1 l0_1.length c0_1) := (blk_cell BK153.out 1).trans rfl; have hcz9_2 : w8.cell? ⟨gb153, 2, none⟩ = some (.bool a0_2) := (blk_cell BK153.out 2).trans rfl; have hfz9_0 := zqi BK153.out 0; have hfz9_1 := zqi BK153.out 1; have hfz9_2 := zqi BK153.out 2))
   go_ret
   exact ⟨by first | rfl | (simp [errW_none, errW_some] <;> rfl) | (simp [*, errW_none, errW_some] <;> rfl), by repeat (first | (with_reducible first | exact HB.out | apply zqg | apply zqe | apply zqf | refine zqd ?_ GE153.out) | exact HB.out)⟩
 ·rw [if_neg c2] at H
  have c2b0 : decide ((l0_0.length : Int) ≤ 40) = false := decide_eq_false c2
  have c2b1 : decide (l0_0.length ≤ 40) = false := decide_eq_false (by omega)
  clear c2
  obtain rfl := Option.some.inj H
  go_enter Try.func11, Try.ntmps11
  go_wp2_with (first | ((with_reducible refine gate_dst (N := 1) rfl ?_); (try (refine gate_guard (by rfl) ?_; dsimp only)); refine box_event ?hg (N := 1) ?hd (cs := #[.slice A0_0 l0_0.length c0_0, .slice A0_1 l0_1.length c0_1, .bool a0_2]) (t := 25) ?hr ?_; (case hd => rfl); (case hg => rfl); (case hr => first | (go_simp; done) | (go_simp; rfl)); intro gb153 hg w10 hbox hb; have n0_ := zqj (below_step (by repeat (first | (with_reducible first | exact HB.out | apply zqg | apply zqe | apply zqf) | exact HB.out)) hb); have n1_ := zqj (hbox); have n2_ := zqj ((by rw [hg]; exact (below_size (by repeat (first | (with_reducible first | exact HB.out | apply zqg | apply zqe | apply zqf) | exact HB.out))) : w.heap.size ≤ gb153)); have n3_ := zqj ((by rw [hg]; exact (below_size (by repeat (first | (with_reducible first | exact HB.out | apply zqg | apply zqe | apply zqf) | exact HB.out))) : w.heap.size ≤ gb153)); clear HB; have HB := n0_; have BK153 := n1_; have GW153 := n2_; have GE153 := n3_; clear n0_ n1_ n2_ n3_; clear hb hbox hg; have hcz11_0 : w10.cell? ⟨gb153, 0, none⟩ = some (.slice A0_0 l0_0.length c0_0) := (blk_cell BK153.out 0).trans rfl; have hcz11_1 : w10.cell? ⟨gb153, 1, none⟩ = some (.slice A0_1 l0_1.length c0_1) := (blk_cell BK153.out 1).trans rfl; have hcz11_2 : w10.cell? ⟨gb153, 2, none⟩ = some (.bool a0_2) := (blk_cell BK153.out 2).trans rfl; have hfz11_0 := zqi BK153.out 0; have hfz11_1 := zqi BK153.out 1; have hfz11_2 := zqi BK153.out 2))
  go_ret
  exact ⟨by first | rfl | (simp [errW_none, errW_some] <;> rfl) | (simp [*, errW_none, errW_some] <;> rfl), by repeat (first | (with_reducible first | exact HB.out | apply zqg | apply zqe | apply zqf | refine zqd ?_ GE153.out) | exact HB.out)⟩
end Go.Proofs.Ytcbfnfggnocndaa.Q
end

section
namespace Go.Proofs.Ytcbfnfggnocndaa.Q
open Go.RowKit Go.Proofs.YtcbfnfggnocndaaW.PrintWords Go.Proofs.YtcbfnfggnocndaaW.PrintLast Go.Proofs.YtcbfnfggnocndaaW.PrintMore
attribute [local go_sem] max2_int min2_int max_two min_two max_three min_three max_four min_four   -- for this text's walks alone
attribute [local go_sem high] Go.Proofs.Ytcbfnfggnocndaa.px_xor_u8 Go.Proofs.Ytcbfnfggnocndaa.px_xor_u16 Go.Proofs.Ytcbfnfggnocndaa.px_xor_u32 Go.Proofs.Ytcbfnfggnocndaa.px_xor_u64
theorem eqA30 (d : Nat) (w : World) (x0 y0 : Int) (x1 y1 : Int) (x2 y2 : Int) (x3 y3 : Int) :
    (Op.equalIn (d + 2) 30 (.agg #[.int .i64 x0, .int .i64 x1, .int .u64 x2, .int .i64 x3]) (.agg #[.int .i64 y0, .int .i64 y1, .int .u64 y2, .int .i64 y3])).run Try.prog w = .ok (x0 == y0 && (x1 == y1 && (x2 == y2 && (x3 == y3)))) w := by
  refine eqA_of Try.underlying30 (by kernel_rfl) ?_
  refine eqf_cons (by rfl) (by go_simp; rfl) (by go_simp; rfl) (by go_simp) ?_
  refine eqf_cons (by rfl) (by go_simp; rfl) (by go_simp; rfl) (by go_simp) ?_
  refine eqf_cons (by rfl) (by go_simp; rfl) (by go_simp; rfl) (by go_simp) ?_
  exact eqf_last (by rfl) (by go_simp; rfl) (by go_simp; rfl) (by go_simp)
end Go.Proofs.Ytcbfnfggnocndaa.Q
end

section
namespace Go.Proofs.Ytcbfnfggnocndaa.Q
open Go.RowKit Go.Proofs.YtcbfnfggnocndaaW.PrintWords Go.Proofs.YtcbfnfggnocndaaW.PrintLast Go.Proofs.YtcbfnfggnocndaaW.PrintMore
attribute [local go_sem] max2_int min2_int max_two min_two max_three min_three max_four min_four   -- for this text's walks alone
attribute [local go_sem high] Go.Proofs.Ytcbfnfggnocndaa.px_xor_u8 Go.Proofs.Ytcbfnfggnocndaa.px_xor_u16 Go.Proofs.Ytcbfnfggnocndaa.px_xor_u32 Go.Proofs.Ytcbfnfggnocndaa.px_xor_u64
attribute [local go_sem high] eqA30
def copyholdref01_Long.l0 : Nat → List ByteArray → Int → Int → Option (Int)
  | 0, _, _, _ => none
  | k + 1, x0, x3, x4 => if x4 < (x0.length : Int) then (if 0 ≤ x4 then (copyholdref01_Long.l0 k x0 (wrap64 (x3 + ((rdOf ByteArray.empty x0 x4).size : Int))) (wrap64 (x4 + 1))) else (none)) else (some x3)
def copyholdref01_Long.f (k : Nat) (l0 : List ByteArray) : Option (Int) := copyholdref01_Long.l0 k l0 (l0.length : Int) 0
theorem copyholdref01_Long.mono_l : ∀ k, (∀ y0 y1 y2, LeO (copyholdref01_Long.l0 k y0 y1 y2) (copyholdref01_Long.l0 (k + 1) y0 y1 y2))
  | 0 => fun _ _ _ r h => by simp [copyholdref01_Long.l0] at h
  | k + 1 => by
    have ih0 := copyholdref01_Long.mono_l k
    · intro y0 y1 y2
      unfold copyholdref01_Long.l0
      repeat' first
      | (with_reducible exact ih0 _ _ _)
      | (with_reducible exact LeO.refl _)
      | (with_reducible exact LeO.none _)
      | (with_reducible refine LeO.ite ?_ ?_)
      | (with_reducible refine LeO.bind ?_ (fun _ => ?_))
      | exact ih0 _ _ _
      | exact LeO.none _
      | refine LeO.ite ?_ ?_
      | refine LeO.bind ?_ (fun _ => ?_)
theorem copyholdref01_Long.mono : ∀ a0 k, LeO (copyholdref01_Long.f k a0) (copyholdref01_Long.f (k + 1) a0) := by
  intro a0 k
  have ih0 := copyholdref01_Long.mono_l k
  unfold copyholdref01_Long.f
  repeat' first
      | (with_reducible exact ih0 _ _ _)
      | (with_reducible exact LeO.refl _)
      | (with_reducible exact LeO.none _)
      | (with_reducible refine LeO.ite ?_ ?_)
      | (with_reducible refine LeO.bind ?_ (fun _ => ?_))
      | exact ih0 _ _ _
      | exact LeO.none _
      | refine LeO.ite ?_ ?_
      | refine LeO.bind ?_ (fun _ => ?_)
set_option maxHeartbeats 8000000 in
set_option maxRecDepth 100000 in
theorem copyholdref01_Long.calls (k : Nat) (A0 : Option Addr) (c0 : Nat) (l0 : List ByteArray) (r : Int) (w : World) (hr0 : Kd.C Kd.string w A0 l0.length l0) (hc0 : l0.length ≤ c0) (h : copyholdref01_Long.f k l0 = some r) :
    Calls Try.prog 16 #[.slice A0 l0.length c0] w fun e w' => e = .returned (.int .i64 r) ∧ Drawn0 w w' := by
  have HR0 := zqj hr0
  have HC0 := zqj hc0
  clear hr0 hc0
  have H : (copyholdref01_Long.l0 k l0 (l0.length : Int) 0) = some r := h
  clear h
  have H' := zqj H
  clear H
  go_enter Try.func16, Try.ntmps16
  go_wp2
  go_loopg [3, 4] k (fun kq v3 v4 w' => ∃ (x3_1 : Int) (x4_1 : Int), v3 = .int .i64 x3_1 ∧ v4 = .int .i64 x4_1 ∧ Aside0 (copyholdref01_Long.l0 kq l0 x3_1 x4_1 = some r) ∧ Aside0 (kq ≤ k) ∧ Drawn0 w w')
  case atStart => exact ⟨((l0.length : Int)), (0), (by first | rfl | (simp; done) | (simp [*]; done)), (by first | rfl | (simp; done) | (simp [*]; done)), H', ⟨Nat.le_refl _⟩, by repeat (first | exact Drawn0.refl _ | apply Drawn0.step)⟩
  case round =>
    clear H'
    try clear c1
    obtain ⟨x3_1, x4_1, rfl, rfl, HA, HK1, ⟨m1, rfl⟩⟩ := hrel
    cases gk with
    | zero => exact absurd HA.out (by simp [copyholdref01_Long.l0])
    | succ k1 =>
      have H := HA.out
      clear HA
      simp only [copyholdref01_Long.l0] at H
      by_cases c2 : x4_1 < (l0.length : Int)
      · rw [if_pos c2] at H
        have c2b0 : decide (x4_1 < (l0.length : Int)) = true := decide_eq_true c2
        clear c2
        by_cases c3 : 0 ≤ x4_1
        · rw [if_pos c3] at H
          have c3b0 : decide (0 ≤ x4_1) = true := decide_eq_true c3
          clear c3
          have H' := zqj H
          clear H
          have p177 : 0 ≤ (x4_1 : Int) := zqh (by first | (with_reducible assumption) | assumption)
          have q177 : x4_1 < (l0.length : Int) := zqh (by first | (with_reducible assumption) | assumption)
          obtain ⟨ad177, e177, hx177_0⟩ := Kd.at_string HR0.out x4_1 p177 q177
          cases e177
          replace p177 := eq_true p177
          replace q177 := eq_true q177
          go_wp2
          go_roundg k1
          case measure => have := HK1.out; omega
          case rel => exact ⟨(wrap64 (x3_1 + ((rdOf ByteArray.empty l0 x4_1).size : Int))), (wrap64 (x4_1 + 1)), (by first | rfl | (simp; done) | (simp [*]; done)), (by first | rfl | (simp; done) | (simp [*]; done)), H', ⟨by have := HK1.out; omega⟩, by repeat (first | exact Drawn0.refl _ | apply Drawn0.step)⟩
        · rw [if_neg c3] at H
          exact absurd H (by simp)
      · rw [if_neg c2] at H
        have c2b0 : decide (x4_1 < (l0.length : Int)) = false := decide_eq_false c2
        clear c2
        obtain rfl := Option.some.inj H
        go_wp2
        go_ret
        exact ⟨by first | rfl | (simp; done) | (simp [*]; done), by repeat (first | exact Drawn0.refl _ | apply Drawn0.step)⟩
end Go.Proofs.Ytcbfnfggnocndaa.Q
end

section
namespace Go.Proofs.Ytcbfnfggnocndaa.Q
open Go.RowKit Go.Proofs.YtcbfnfggnocndaaW.PrintWords Go.Proofs.YtcbfnfggnocndaaW.PrintLast Go.Proofs.YtcbfnfggnocndaaW.PrintMore
attribute [local go_sem] max2_int min2_int max_two min_two max_three min_three max_four min_four   -- for this text's walks alone
attribute [local go_sem high] Go.Proofs.Ytcbfnfggnocndaa.px_xor_u8 Go.Proofs.Ytcbfnfggnocndaa.px_xor_u16 Go.Proofs.Ytcbfnfggnocndaa.px_xor_u32 Go.Proofs.Ytcbfnfggnocndaa.px_xor_u64
def copyholdref01_Strings.l0 : Nat → List ByteArray → List ByteArray → Int → Option (Bool)
 | 0, _, _, _ => none
 | k + 1, x0, x1, x5 => if x5 < (x0.length : Int) then (if 0 ≤ x5 then (if x5 < (x1.length : Int) then (if (rdOf ByteArray.empty x0 x5).toList = (rdOf ByteArray.empty x1 x5).toList then (copyholdref01_Strings.l0 k x0 x1 (wrap64 (x5 + 1))) else (some false)) else (none)) else (none)) else (some true)
def copyholdref01_Strings.f (k : Nat) (l0 : List ByteArray) (l1 : List ByteArray) : Option (Bool) := if (l0.length : Int) = (l1.length : Int) then (copyholdref01_Strings.l0 k l0 l1 0) else (some false)
theorem copyholdref01_Strings.mono_l : ∀ k, (∀ y0 y1 y2, LeO (copyholdref01_Strings.l0 k y0 y1 y2) (copyholdref01_Strings.l0 (k + 1) y0 y1 y2))
 | 0 => fun _ _ _ r h => by simp [copyholdref01_Strings.l0] at h
 | k + 1 => by
  have ih0 := copyholdref01_Strings.mono_l k
  ·intro y0 y1 y2
   unfold copyholdref01_Strings.l0
   repeat' first
   | (with_reducible exact ih0 _ _ _)
   | (with_reducible exact LeO.refl _)
   | (with_reducible exact LeO.none _)
   | (with_reducible refine LeO.ite ?_ ?_)
   | (with_reducible refine LeO.bind ?_ (fun _ => ?_))
   | exact ih0 _ _ _
   | exact LeO.none _
   | refine LeO.ite ?_ ?_
   | refine LeO.bind ?_ (fun _ => ?_)
theorem copyholdref01_Strings.mono : ∀ a0 a1 k, LeO (copyholdref01_Strings.f k a0 a1) (copyholdref01_Strings.f (k + 1) a0 a1) := by
 intro a0 a1 k
 have ih0 := copyholdref01_Strings.mono_l k
 unfold copyholdref01_Strings.f
 repeat' first
   | (with_reducible exact ih0 _ _ _)
   | (with_reducible exact LeO.refl _)
   | (with_reducible exact LeO.none _)
   | (with_reducible refine LeO.ite ?_ ?_)
   | (with_reducible refine LeO.bind ?_ (fun _ => ?_))
   | exact ih0 _ _ _
   | exact LeO.none _
   | refine LeO.ite ?_ ?_
   | refine LeO.bind ?_ (fun _ => ?_)
set_option maxHeartbeats 8000000 in
set_option maxRecDepth 100000 in
theorem copyholdref01_Strings.calls (k : Nat) (A0 : Option Addr) (c0 : Nat) (l0 : List ByteArray) (A1 : Option Addr) (c1 : Nat) (l1 : List ByteArray) (r : Bool) (w : World) (hr0 : Kd.C Kd.string w A0 l0.length l0) (hc0 : l0.length ≤ c0) (hr1 : Kd.C Kd.string w A1 l1.length l1) (hc1 : l1.length ≤ c1) (h : copyholdref01_Strings.f k l0 l1 = some r) :
  Calls Try.prog 19 #[.slice A0 l0.length c0, .slice A1 l1.length c1] w fun e w' => e = .returned (.bool r) ∧ Drawn0 w w' := by
 have HR0 := zqj hr0
 have HC0 := zqj hc0
 clear hr0 hc0
 have HR1 := zqj hr1
 have HC1 := zqj hc1
 clear hr1 hc1
 have H : (if (l0.length : Int) = (l1.length : Int) then (copyholdref01_Strings.l0 k l0 l1 0) else (some false)) = some r := h
 clear h
 by_cases c3 : (l0.length : Int) = (l1.length : Int)
 ·rw [if_pos c3] at H
  have c3b0 : ((l0.length : Int) == (l1.length : Int)) = true := beq_iff_eq.mpr c3
  have c3b1 : ((l0.length : Int) != (l1.length : Int)) = false := bne_eq_false_iff_eq.mpr c3
  have c3b2 : (l0.length == l1.length) = true := by first | simpa using c3 | (simp at c3 ⊢; omega)
  clear c3
  have H' := zqj H
  clear H
  go_enter Try.func19, Try.ntmps19
  go_wp2
  repeat (go_quiet (fail); try go_wp2)
  go_loopg [5] k (fun kq v5 w' => ∃ (x5_1 : Int), v5 = .int .i64 x5_1 ∧ Aside0 (copyholdref01_Strings.l0 kq l0 l1 x5_1 = some r) ∧ Aside0 (kq ≤ k) ∧ Drawn0 w w')
  case atStart => exact ⟨(0), (by first | rfl | (simp; done) | (simp [*]; done)), H', ⟨Nat.le_refl _⟩, by repeat (first | exact Drawn0.refl _ | apply Drawn0.step)⟩
  case round =>
   clear H'
   ((try clear c1); (try clear p2); (try clear c3); (try clear c3b0); (try clear c3b1); (try clear c3b2))
   obtain ⟨x5_1, rfl, HA, HK1, ⟨m1, rfl⟩⟩ := hrel
   cases gk with
   | zero => exact absurd HA.out (by simp [copyholdref01_Strings.l0])
   | succ k1 =>
    (have H := HA.out; clear HA)
    simp only [copyholdref01_Strings.l0] at H
    by_cases c4 : x5_1 < (l0.length : Int)
    ·rw [if_pos c4] at H
     have c4b0 : decide (x5_1 < (l0.length : Int)) = true := decide_eq_true c4
     clear c4
     by_cases c5 : 0 ≤ x5_1
     ·rw [if_pos c5] at H
      have c5b0 : decide (0 ≤ x5_1) = true := decide_eq_true c5
      clear c5
      by_cases c6 : x5_1 < (l1.length : Int)
      ·rw [if_pos c6] at H
       have c6b0 : decide (x5_1 < (l1.length : Int)) = true := decide_eq_true c6
       clear c6
       by_cases c7 : (rdOf ByteArray.empty l0 x5_1).toList = (rdOf ByteArray.empty l1 x5_1).toList
       ·rw [if_pos c7] at H
        have c7b0 : ((rdOf ByteArray.empty l0 x5_1).toList == (rdOf ByteArray.empty l1 x5_1).toList) = true := beq_iff_eq.mpr c7
        have c7b1 : ((rdOf ByteArray.empty l0 x5_1).toList != (rdOf ByteArray.empty l1 x5_1).toList) = false := bne_eq_false_iff_eq.mpr c7
        clear c7
        have H' := zqj H
        clear H
        have p200 : 0 ≤ (x5_1 : Int) := zqh (by first | (with_reducible assumption) | assumption)
        have q200 : x5_1 < (l0.length : Int) := zqh (by first | (with_reducible assumption) | assumption)
        obtain ⟨ad200, e200, hx200_0⟩ := Kd.at_string HR0.out x5_1 p200 q200
        cases e200
        replace p200 := eq_true p200
        replace q200 := eq_true q200
        have p201 : 0 ≤ (x5_1 : Int) := zqh (by first | (with_reducible assumption) | assumption)
        have q201 : x5_1 < (l1.length : Int) := zqh (by first | (with_reducible assumption) | assumption)
        obtain ⟨ad201, e201, hx201_0⟩ := Kd.at_string HR1.out x5_1 p201 q201
        cases e201
        replace p201 := eq_true p201
        replace q201 := eq_true q201
        go_wp2
        repeat (go_quiet (fail); try go_wp2)
        go_roundg k1
        case measure => have := HK1.out; omega
        case rel => exact ⟨(wrap64 (x5_1 + 1)), (by first | rfl | (simp; done) | (simp [*]; done)), H', ⟨by have := HK1.out; omega⟩, by repeat (first | exact Drawn0.refl _ | apply Drawn0.step)⟩
       ·rw [if_neg c7] at H
        have c7b0 : ((rdOf ByteArray.empty l0 x5_1).toList == (rdOf ByteArray.empty l1 x5_1).toList) = false := beq_eq_false_iff_ne.mpr c7
        have c7b1 : ((rdOf ByteArray.empty l0 x5_1).toList != (rdOf ByteArray.empty l1 x5_1).toList) = true := bne_iff_ne.mpr c7
        obtain rfl := Option.some.inj H
        have p200 : 0 ≤ (x5_1 : Int) := zqh (by first | (with_reducible assumption) | assumption)
        have q200 : x5_1 < (l0.length : Int) := zqh (by first | (with_reducible assumption) | assumption)
        obtain ⟨ad200, e200, hx200_0⟩ := Kd.at_string HR0.out x5_1 p200 q200
        cases e200
        replace p200 := eq_true p200
        replace q200 := eq_true q200
        have p201 : 0 ≤ (x5_1 : Int) := zqh (by first | (with_reducible assumption) | assumption)
        have q201 : x5_1 < (l1.length : Int) := zqh (by first | (with_reducible assumption) | assumption)
        obtain ⟨ad201, e201, hx201_0⟩ := Kd.at_string HR1.out x5_1 p201 q201
        cases e201
        replace p201 := eq_true p201
        replace q201 := eq_true q201
        go_wp2
        repeat (go_quiet (fail); try go_wp2)
        go_ret
        exact ⟨by first | rfl | (simp; done) | (simp [*]; done), by repeat (first | exact Drawn0.refl _ | apply Drawn0.step)⟩
      ·rw [if_neg c6] at H
       exact absurd H (by simp)
     ·rw [if_neg c5] at H
      exact absurd H (by simp)
    ·rw [if_neg c4] at H
     have c4b0 : decide (x5_1 < (l0.length : Int)) = false := decide_eq_false c4
     clear c4
     obtain rfl := Option.some.inj H
     go_wp2
     repeat (go_quiet (fail); try go_wp2)
     go_ret
     exact ⟨by first | rfl | (simp; done) | (simp [*]; done), by repeat (first | exact Drawn0.refl _ | apply Drawn0.step)⟩
 ·rw [if_neg c3] at H
  have c3b0 : ((l0.length : Int) == (l1.length : Int)) = false := beq_eq_false_iff_ne.mpr c3
  have c3b1 : ((l0.length : Int) != (l1.length : Int)) = true := bne_iff_ne.mpr c3
  have c3b2 : (l0.length == l1.length) = false := by first | simpa using c3 | (simp at c3 ⊢; omega)
  obtain rfl := Option.some.inj H
  go_enter Try.func19, Try.ntmps19
  go_wp2
  repeat (go_quiet (fail); try go_wp2)
  go_ret
  exact ⟨by first | rfl | (simp; done) | (simp [*]; done), by repeat (first | exact Drawn0.refl _ | apply Drawn0.step)⟩
end Go.Proofs.Ytcbfnfggnocndaa.Q
end
