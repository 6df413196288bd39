/- The machine's side of laws of this seat: Go functions as Lean functions, and the proof that a call of each comes to what its function says (written by a program of this session, px.py, that runs the kit's print). -/
import Derived.Test.YtoenhajcjebmeaaQ0
import Derived.Test.YtoenhajcjebmeaaQ1
import Derived.Test.YtoenhajcjebmeaaQ4
namespace Go.Proofs.Ytoenhajcjebmeaa.Q
open Go.RowKit Go.Proofs.YtoenhajcjebmeaaW.PrintWords Go.Proofs.YtoenhajcjebmeaaW.PrintLast Go.Proofs.YtoenhajcjebmeaaW.PrintMore
attribute [local go_sem] max2_int min2_int max_two min_two max_three min_three max_four min_four   -- for this text's walks alone
attribute [local go_sem high] Go.Proofs.Ytoenhajcjebmeaa.px_xor_u8 Go.Proofs.Ytoenhajcjebmeaa.px_xor_u16 Go.Proofs.Ytoenhajcjebmeaa.px_xor_u32 Go.Proofs.Ytoenhajcjebmeaa.px_xor_u64
set_option linter.unusedVariables false
set_option linter.unusedSimpArgs false

/-! ### copyholdlaw01_OctetBack: function 7 -/
mutual
def copyholdlaw01_OctetBack.j0 : Nat → Int → List ByteArray → ByteArray → Int → Bool → Bool → Option (Bool)
  | 0, _, _, _, _, _, _ => none
  | k + 1, x3, x4, x5, x6, x7, x36 => if x36 = true then (some x7) else ((octet_Num.f x3).bind fun t177 => ((octet_List.f x4).bind fun t178 => (if t177.size + t178.size ≤ 9223372036854775807 then (if (t177 ++ t178).size + x5.size ≤ 9223372036854775807 then ((octet_TakeNum.f ((t177 ++ t178) ++ x5)).bind fun bt179 => ((octet_TakeList.f bt179.2.1 (x4.length : Int) 5000).bind fun bt182 => ((copyholdref01_Strings.f k bt182.1 x4).bind fun t187 => (if bt179.2.2 = 0 then (if bt182.2.2 = 0 then (if bt179.1 = x3 then (if t187 = true then (copyholdlaw01_OctetBack.j1 k x4 x6 x7 (bt182.2.1.toList != x5.toList)) else (copyholdlaw01_OctetBack.j1 k x4 x6 x7 true)) else (copyholdlaw01_OctetBack.j1 k x4 x6 x7 true)) else (copyholdlaw01_OctetBack.j1 k x4 x6 x7 true)) else (copyholdlaw01_OctetBack.j1 k x4 x6 x7 true))))) else (none)) else (none))))
def copyholdlaw01_OctetBack.j1 : Nat → List ByteArray → Int → Bool → Bool → Option (Bool)
  | 0, _, _, _, _ => none
  | k + 1, x4, x6, x7, x81 => if x81 = true then (some false) else ((octet_List.f x4).bind fun t188 => (if x6 < 0 then (some x7) else (if x6 ≥ (t188.size : Int) then (some x7) else (if 0 ≤ x6 then (if x6 ≤ (t188.size : Int) then ((octet_TakeList.f (t188.extract 0 (x6 : Int).toNat) (x4.length : Int) 5000).bind fun bt189 => (if x7 = true then (some (bt189.2.2 == 2)) else (some false))) else (none)) else (none)))))
end
def copyholdlaw01_OctetBack.f (k : Nat) (a0_0 : Int) (l0_1 : List ByteArray) (a0_2 : ByteArray) (a0_3 : Int) : Option (Bool) := (copyholdlaw01_shown.f).bind fun t175 => ((copyholdref01_Long.f k l0_1).bind fun t176 => (if t176 > 5000 then (copyholdlaw01_OctetBack.j0 k a0_0 l0_1 a0_2 a0_3 t175 true) else (copyholdlaw01_OctetBack.j0 k a0_0 l0_1 a0_2 a0_3 t175 (decide ((a0_2.size : Int) > 1000)))))
theorem copyholdlaw01_OctetBack.mono_l : ∀ k, (∀ y0 y1 y2 y3 y4 y5, LeO (copyholdlaw01_OctetBack.j0 k y0 y1 y2 y3 y4 y5) (copyholdlaw01_OctetBack.j0 (k + 1) y0 y1 y2 y3 y4 y5)) ∧ (∀ y0 y1 y2 y3, LeO (copyholdlaw01_OctetBack.j1 k y0 y1 y2 y3) (copyholdlaw01_OctetBack.j1 (k + 1) y0 y1 y2 y3))
  | 0 => ⟨fun _ _ _ _ _ _ r h => by simp [copyholdlaw01_OctetBack.j0] at h, fun _ _ _ _ r h => by simp [copyholdlaw01_OctetBack.j1] at h⟩
  | k + 1 => by
    obtain ⟨ih0, ih1⟩ := copyholdlaw01_OctetBack.mono_l k
    refine ⟨?_, ?_⟩
    · intro y0 y1 y2 y3 y4 y5
      unfold copyholdlaw01_OctetBack.j0
      repeat' first
      | (with_reducible exact ih0 _ _ _ _ _ _)
      | (with_reducible exact ih1 _ _ _ _)
      | (with_reducible exact copyholdref01_Long.mono _ _)
      | (with_reducible exact copyholdref01_Strings.mono _ _ _)
      | (with_reducible exact LeO.refl _)
      | (with_reducible exact LeO.none _)
      | (with_reducible refine LeO.ite ?_ ?_)
      | (with_reducible refine LeO.bind ?_ (fun _ => ?_))
      | exact ih0 _ _ _ _ _ _
      | exact ih1 _ _ _ _
      | exact copyholdref01_Long.mono _ _
      | exact copyholdref01_Strings.mono _ _ _
      | exact LeO.none _
      | refine LeO.ite ?_ ?_
      | refine LeO.bind ?_ (fun _ => ?_)
    · intro y0 y1 y2 y3
      unfold copyholdlaw01_OctetBack.j1
      repeat' first
      | (with_reducible exact ih0 _ _ _ _ _ _)
      | (with_reducible exact ih1 _ _ _ _)
      | (with_reducible exact copyholdref01_Long.mono _ _)
      | (with_reducible exact copyholdref01_Strings.mono _ _ _)
      | (with_reducible exact LeO.refl _)
      | (with_reducible exact LeO.none _)
      | (with_reducible refine LeO.ite ?_ ?_)
      | (with_reducible refine LeO.bind ?_ (fun _ => ?_))
      | exact ih0 _ _ _ _ _ _
      | exact ih1 _ _ _ _
      | exact copyholdref01_Long.mono _ _
      | exact copyholdref01_Strings.mono _ _ _
      | exact LeO.none _
      | refine LeO.ite ?_ ?_
      | refine LeO.bind ?_ (fun _ => ?_)
theorem copyholdlaw01_OctetBack.mono : ∀ a0 a1 a2 a3 k, LeO (copyholdlaw01_OctetBack.f k a0 a1 a2 a3) (copyholdlaw01_OctetBack.f (k + 1) a0 a1 a2 a3) := by
  intro a0 a1 a2 a3 k
  obtain ⟨ih0, ih1⟩ := copyholdlaw01_OctetBack.mono_l k
  unfold copyholdlaw01_OctetBack.f
  repeat' first
      | (with_reducible exact ih0 _ _ _ _ _ _)
      | (with_reducible exact ih1 _ _ _ _)
      | (with_reducible exact copyholdref01_Long.mono _ _)
      | (with_reducible exact copyholdref01_Strings.mono _ _ _)
      | (with_reducible exact LeO.refl _)
      | (with_reducible exact LeO.none _)
      | (with_reducible refine LeO.ite ?_ ?_)
      | (with_reducible refine LeO.bind ?_ (fun _ => ?_))
      | exact ih0 _ _ _ _ _ _
      | exact ih1 _ _ _ _
      | exact copyholdref01_Long.mono _ _
      | exact copyholdref01_Strings.mono _ _ _
      | exact LeO.none _
      | refine LeO.ite ?_ ?_
      | refine LeO.bind ?_ (fun _ => ?_)
set_option maxHeartbeats 8000000 in
set_option maxRecDepth 100000 in
theorem copyholdlaw01_OctetBack.calls (k : Nat) (a0_0 : Int) (A0_1 : Option Addr) (c0_1 : Nat) (l0_1 : List ByteArray) (a0_2 : ByteArray) (a0_3 : Int) (r : Bool) (w : World) (hr0_1 : Kd.C Kd.string w A0_1 l0_1.length l0_1) (hc0_1 : l0_1.length ≤ c0_1) (h : copyholdlaw01_OctetBack.f k a0_0 l0_1 a0_2 a0_3 = some r) :
    Calls Try.prog 7 #[.agg #[.int .u64 a0_0, .slice A0_1 l0_1.length c0_1, .string a0_2, .int .i64 a0_3]] w fun e w' => e = .returned (.bool r) ∧ Below w.heap.size w w' := by
  have hu50 := Try.underlying50
  have HR0_1 := Aside0.mk hr0_1
  have HC0_1 := Aside0.mk hc0_1
  clear hr0_1 hc0_1
  have HB := Aside0.mk (Below.refl w.heap.size w)
  have H : ((copyholdlaw01_shown.f).bind fun t175 => ((copyholdref01_Long.f k l0_1).bind fun t176 => (if t176 > 5000 then (copyholdlaw01_OctetBack.j0 k a0_0 l0_1 a0_2 a0_3 t175 true) else (copyholdlaw01_OctetBack.j0 k a0_0 l0_1 a0_2 a0_3 t175 (decide ((a0_2.size : Int) > 1000)))))) = some r := h
  clear h
  replace H := Option.bind_eq_some_iff.mp H
  obtain ⟨t175, A20, H⟩ := H
  replace H : ((copyholdref01_Long.f k l0_1).bind fun t176 => (if t176 > 5000 then (copyholdlaw01_OctetBack.j0 k a0_0 l0_1 a0_2 a0_3 t175 true) else (copyholdlaw01_OctetBack.j0 k a0_0 l0_1 a0_2 a0_3 t175 (decide ((a0_2.size : Int) > 1000))))) = some r := H
  have A2 := Aside0.mk A20
  clear A20
  have HC3 := Aside0.mk H
  clear H
  go_enter Try.func7, Try.ntmps7
  go_upto_region 6 with (first | ((with_reducible refine gate_dst (N := 1) rfl ?_); (try (refine gate_guard (by rfl) ?_; dsimp only)); refine box_event ?hg (N := 1) ?hd (cs := #[.int .u64 a0_0, .slice A0_1 l0_1.length c0_1, .string a0_2, .int .i64 a0_3]) (t := 50) ?hr ?_; (case hd => rfl); (case hg => rfl); (case hr => first | (go_simp; done) | (go_simp; rfl)); intro gb174 hg w4 hbox hb; have n0_ := Aside0.mk (below_step (by repeat (first | (with_reducible first | exact HB.out | apply below_alloc | apply pw_below_drewN | apply below_drew1) | exact HB.out)) hb); have n1_ := Aside0.mk (hbox); have n2_ := Aside0.mk ((by rw [hg]; exact (below_size (by repeat (first | (with_reducible first | exact HB.out | apply below_alloc | apply pw_below_drewN | apply below_drew1) | exact HB.out))) : w.heap.size ≤ gb174)); have n3_ := Aside0.mk ((by rw [hg]; exact (below_size (by repeat (first | (with_reducible first | exact HB.out | apply below_alloc | apply pw_below_drewN | apply below_drew1) | exact HB.out))) : w.heap.size ≤ gb174)); clear HB; have HB := n0_; have BK174 := n1_; have GW174 := n2_; have GE174 := n3_; clear n0_ n1_ n2_ n3_; clear hb hbox hg; have hcz5_0 : w4.cell? ⟨gb174, 0, none⟩ = some (.int .u64 a0_0) := (blk_cell BK174.out 0).trans rfl; have hcz5_1 : w4.cell? ⟨gb174, 1, none⟩ = some (.slice A0_1 l0_1.length c0_1) := (blk_cell BK174.out 1).trans rfl; have hcz5_2 : w4.cell? ⟨gb174, 2, none⟩ = some (.string a0_2) := (blk_cell BK174.out 2).trans rfl; have hcz5_3 : w4.cell? ⟨gb174, 3, none⟩ = some (.int .i64 a0_3) := (blk_cell BK174.out 3).trans rfl; have hfz5_0 := blk_frozen BK174.out 0; have hfz5_1 := blk_frozen BK174.out 1; have hfz5_2 := blk_frozen BK174.out 2; have hfz5_3 := blk_frozen BK174.out 3) | ((with_reducible refine gate_callee (f := 10) rfl ?_); refine goesL_ (some 28) rfl rfl Try.func10 (by kernel_rfl) rfl #[] rfl (by (try simp only [List.map_toArray, List.map_cons, List.map_nil]); first | done | rfl | (simp only [List.length_drop, List.length_take]; rfl)) ?_; (with_reducible refine (copyholdlaw01_shown.calls  t175 _ A2.out).mono ?_); rintro e w6 ⟨rfl, hb⟩; refine ⟨_, rfl, ?_⟩; have n0_ := Aside0.mk (blk_below (g := gb174) (o := .cells #[.int .u64 a0_0, .slice A0_1 l0_1.length c0_1, .string a0_2, .int .i64 a0_3] 50 (0, 0)) (by (with_reducible repeat (first | refine blk_drewN ?_ _ | refine blk_drew ?_ | refine blk_alloc ?_ _)); exact BK174.out) hb); have n1_ := Aside0.mk (below_step (by repeat (first | (with_reducible first | exact HB.out | apply below_alloc | apply pw_below_drewN | apply below_drew1 | refine below_set ?_ GE174.out) | exact HB.out)) hb); clear BK174; clear HB; have BK174 := n0_; have HB := n1_; clear n0_ n1_; (try clear hb); (try clear hb2); (try clear hk); (try clear hi)))
  (try simp only [Act.put, List.setIfInBounds_toArray, List.set_cons_zero, List.set_cons_succ])
  go_cut [36] (fun v36 wc => ∃ (kq : Nat) (x36_2 : Bool), v36 = .bool x36_2 ∧ Aside0 (copyholdlaw01_OctetBack.j0 kq a0_0 l0_1 a0_2 a0_3 t175 x36_2 = some r) ∧ Aside0 (kq ≤ k) ∧ Aside0 (wc.heap[gb174]? = some (.cells #[.int .u64 a0_0, (.slice A0_1 l0_1.length c0_1), .string a0_2, .int .i64 a0_3] 50 (0, 0))) ∧ Aside0 (Below w.heap.size w wc))
  case first =>
    have H := HC3.out
    clear HC3
    replace H := Option.bind_eq_some_iff.mp H
    obtain ⟨t176, A70, H⟩ := H
    replace H : (if t176 > 5000 then (copyholdlaw01_OctetBack.j0 k a0_0 l0_1 a0_2 a0_3 t175 true) else (copyholdlaw01_OctetBack.j0 k a0_0 l0_1 a0_2 a0_3 t175 (decide ((a0_2.size : Int) > 1000)))) = some r := H
    have A7 := Aside0.mk A70
    clear A70
    by_cases c8 : t176 > 5000
    · rw [if_pos c8] at H
      have c8b0 : decide (5000 < t176) = true := decide_eq_true c8
      clear c8
      (first | rw [c8b0] | (simp only [i64_w, i32_w]; rw [c8b0]) | skip)
      have H' := Aside0.mk H
      clear H
      go_wp2_with (first | ((with_reducible refine gate_callee (f := 13) rfl ?_); refine goesL_ (some 30) rfl rfl Try.func13 (by kernel_rfl) rfl #[.slice A0_1 l0_1.length c0_1] rfl (by (try simp only [List.map_toArray, List.map_cons, List.map_nil]); first | done | rfl | (simp only [List.length_drop, List.length_take]; rfl)) ?_; (with_reducible refine (copyholdref01_Long.calls k _ _ l0_1 t176 _ ?side1 ?side2 A7.out).mono ?_); (case side1 => repeat (first | exact (Kd.C_below HR0_1.out HB.out) | (with_reducible refine Kd.C_alloc ?_ _) | (with_reducible refine Kd.C_drewN ?_ _) | (with_reducible refine Kd.C_drew ?_))); (case side2 => exact HC0_1.out); rintro e w' ⟨rfl, ⟨nd, rfl⟩⟩; refine ⟨_, rfl, ?_⟩))
      go_meet
      case rel => exact ⟨_, (true), (by first | rfl | (simp; done) | (simp [*]; done)), H', ⟨by first | omega | exact Nat.le_refl _⟩, ⟨by (with_reducible repeat (first | refine blk_drewN ?_ _ | refine blk_drew ?_ | refine blk_alloc ?_ _)); exact BK174.out⟩, ⟨by repeat (first | (with_reducible first | exact HB.out | apply below_alloc | apply pw_below_drewN | apply below_drew1 | refine below_set ?_ GE174.out) | exact HB.out)⟩⟩
    · rw [if_neg c8] at H
      have c8b0 : decide (5000 < t176) = false := decide_eq_false c8
      clear c8
      (first | rw [c8b0] | (simp only [i64_w, i32_w]; rw [c8b0]) | skip)
      have H' := Aside0.mk H
      clear H
      go_wp2_with (first | ((with_reducible refine gate_callee (f := 13) rfl ?_); refine goesL_ (some 30) rfl rfl Try.func13 (by kernel_rfl) rfl #[.slice A0_1 l0_1.length c0_1] rfl (by (try simp only [List.map_toArray, List.map_cons, List.map_nil]); first | done | rfl | (simp only [List.length_drop, List.length_take]; rfl)) ?_; (with_reducible refine (copyholdref01_Long.calls k _ _ l0_1 t176 _ ?side1 ?side2 A7.out).mono ?_); (case side1 => repeat (first | exact (Kd.C_below HR0_1.out HB.out) | (with_reducible refine Kd.C_alloc ?_ _) | (with_reducible refine Kd.C_drewN ?_ _) | (with_reducible refine Kd.C_drew ?_))); (case side2 => exact HC0_1.out); rintro e w' ⟨rfl, ⟨nd, rfl⟩⟩; refine ⟨_, rfl, ?_⟩))
      go_meet
      case rel => exact ⟨_, (decide ((a0_2.size : Int) > 1000)), (by first | rfl | (simp; done) | (simp [*]; done)), H', ⟨by first | omega | exact Nat.le_refl _⟩, ⟨by (with_reducible repeat (first | refine blk_drewN ?_ _ | refine blk_drew ?_ | refine blk_alloc ?_ _)); exact BK174.out⟩, ⟨by repeat (first | (with_reducible first | exact HB.out | apply below_alloc | apply pw_below_drewN | apply below_drew1 | refine below_set ?_ GE174.out) | exact HB.out)⟩⟩
  case rest =>
    clear HC3
    try clear c1
    try clear p2
    try clear c7
    try clear c8
    try clear c8b0
    try clear hcz5_0
    try clear hcz5_1
    try clear hcz5_2
    try clear hcz5_3
    try clear hfz5_0
    try clear hfz5_1
    try clear hfz5_2
    try clear hfz5_3
    obtain ⟨kq, x36_2, rfl, HA, HJ2, BK174, HB⟩ := hcut
    cases kq with
    | zero => exact absurd HA.out (by simp [copyholdlaw01_OctetBack.j0])
    | succ kj2 =>
      have H := HA.out
      clear HA
      simp only [copyholdlaw01_OctetBack.j0] at H
      by_cases c9 : x36_2 = true
      · subst c9
        have H1 : (some t175) = some r := by rw [if_pos rfl] at H; exact H
        clear H
        have H := H1
        clear H1
        obtain rfl := Option.some.inj H
        go_wp2
        go_ret
        exact ⟨by first | rfl | (simp [errW_none, errW_some] <;> rfl) | (simp [*, errW_none, errW_some] <;> rfl), by repeat (first | (with_reducible first | exact HB.out | apply below_alloc | apply pw_below_drewN | apply below_drew1 | refine below_set ?_ GE174.out) | exact HB.out)⟩
      · replace c9 := Bool.eq_false_iff.mpr c9
        subst c9
        have H1 : ((octet_Num.f a0_0).bind fun t177 => ((octet_List.f l0_1).bind fun t178 => (if t177.size + t178.size ≤ 9223372036854775807 then (if (t177 ++ t178).size + a0_2.size ≤ 9223372036854775807 then ((octet_TakeNum.f ((t177 ++ t178) ++ a0_2)).bind fun bt179 => ((octet_TakeList.f bt179.2.1 (l0_1.length : Int) 5000).bind fun bt182 => ((copyholdref01_Strings.f kj2 bt182.1 l0_1).bind fun t187 => (if bt179.2.2 = 0 then (if bt182.2.2 = 0 then (if bt179.1 = a0_0 then (if t187 = true then (copyholdlaw01_OctetBack.j1 kj2 l0_1 a0_3 t175 (bt182.2.1.toList != a0_2.toList)) else (copyholdlaw01_OctetBack.j1 kj2 l0_1 a0_3 t175 true)) else (copyholdlaw01_OctetBack.j1 kj2 l0_1 a0_3 t175 true)) else (copyholdlaw01_OctetBack.j1 kj2 l0_1 a0_3 t175 true)) else (copyholdlaw01_OctetBack.j1 kj2 l0_1 a0_3 t175 true))))) else (none)) else (none)))) = some r := by rw [if_neg (show ¬ (false = true) by decide)] at H; exact H
        clear H
        have H := H1
        clear H1
        replace H := Option.bind_eq_some_iff.mp H
        obtain ⟨t177, A100, H⟩ := H
        replace H : ((octet_List.f l0_1).bind fun t178 => (if t177.size + t178.size ≤ 9223372036854775807 then (if (t177 ++ t178).size + a0_2.size ≤ 9223372036854775807 then ((octet_TakeNum.f ((t177 ++ t178) ++ a0_2)).bind fun bt179 => ((octet_TakeList.f bt179.2.1 (l0_1.length : Int) 5000).bind fun bt182 => ((copyholdref01_Strings.f kj2 bt182.1 l0_1).bind fun t187 => (if bt179.2.2 = 0 then (if bt182.2.2 = 0 then (if bt179.1 = a0_0 then (if t187 = true then (copyholdlaw01_OctetBack.j1 kj2 l0_1 a0_3 t175 (bt182.2.1.toList != a0_2.toList)) else (copyholdlaw01_OctetBack.j1 kj2 l0_1 a0_3 t175 true)) else (copyholdlaw01_OctetBack.j1 kj2 l0_1 a0_3 t175 true)) else (copyholdlaw01_OctetBack.j1 kj2 l0_1 a0_3 t175 true)) else (copyholdlaw01_OctetBack.j1 kj2 l0_1 a0_3 t175 true))))) else (none)) else (none))) = some r := H
        have A10 := Aside0.mk A100
        clear A100
        replace H := Option.bind_eq_some_iff.mp H
        obtain ⟨t178, A110, H⟩ := H
        replace H : (if t177.size + t178.size ≤ 9223372036854775807 then (if (t177 ++ t178).size + a0_2.size ≤ 9223372036854775807 then ((octet_TakeNum.f ((t177 ++ t178) ++ a0_2)).bind fun bt179 => ((octet_TakeList.f bt179.2.1 (l0_1.length : Int) 5000).bind fun bt182 => ((copyholdref01_Strings.f kj2 bt182.1 l0_1).bind fun t187 => (if bt179.2.2 = 0 then (if bt182.2.2 = 0 then (if bt179.1 = a0_0 then (if t187 = true then (copyholdlaw01_OctetBack.j1 kj2 l0_1 a0_3 t175 (bt182.2.1.toList != a0_2.toList)) else (copyholdlaw01_OctetBack.j1 kj2 l0_1 a0_3 t175 true)) else (copyholdlaw01_OctetBack.j1 kj2 l0_1 a0_3 t175 true)) else (copyholdlaw01_OctetBack.j1 kj2 l0_1 a0_3 t175 true)) else (copyholdlaw01_OctetBack.j1 kj2 l0_1 a0_3 t175 true))))) else (none)) else (none)) = some r := H
        have A11 := Aside0.mk A110
        clear A110
        by_cases c12 : t177.size + t178.size ≤ 9223372036854775807
        · rw [if_pos c12] at H
          have c12b0 := eq_true c12
          have c12b1 : decide (t177.size + t178.size ≤ 9223372036854775807) = true := decide_eq_true c12
          try have c12b2 : (9223372036854775807 < t177.size + t178.size) = False := eq_false (Nat.not_lt.2 c12)
          by_cases c13 : (t177 ++ t178).size + a0_2.size ≤ 9223372036854775807
          · rw [if_pos c13] at H
            have c13b0 := eq_true c13
            have c13b1 : decide ((t177 ++ t178).size + a0_2.size ≤ 9223372036854775807) = true := decide_eq_true c13
            try have c13b2 : (9223372036854775807 < (t177 ++ t178).size + a0_2.size) = False := eq_false (Nat.not_lt.2 c13)
            replace H := Option.bind_eq_some_iff.mp H
            obtain ⟨⟨t179, t180, t181⟩, A140, H⟩ := H
            replace H : ((octet_TakeList.f t180 (l0_1.length : Int) 5000).bind fun bt182 => ((copyholdref01_Strings.f kj2 bt182.1 l0_1).bind fun t187 => (if t181 = 0 then (if bt182.2.2 = 0 then (if t179 = a0_0 then (if t187 = true then (copyholdlaw01_OctetBack.j1 kj2 l0_1 a0_3 t175 (bt182.2.1.toList != a0_2.toList)) else (copyholdlaw01_OctetBack.j1 kj2 l0_1 a0_3 t175 true)) else (copyholdlaw01_OctetBack.j1 kj2 l0_1 a0_3 t175 true)) else (copyholdlaw01_OctetBack.j1 kj2 l0_1 a0_3 t175 true)) else (copyholdlaw01_OctetBack.j1 kj2 l0_1 a0_3 t175 true)))) = some r := H
            have A14 := Aside0.mk A140
            clear A140
            replace H := Option.bind_eq_some_iff.mp H
            obtain ⟨⟨t182, t183, t184⟩, A150, H⟩ := H
            replace H : ((copyholdref01_Strings.f kj2 t182 l0_1).bind fun t187 => (if t181 = 0 then (if t184 = 0 then (if t179 = a0_0 then (if t187 = true then (copyholdlaw01_OctetBack.j1 kj2 l0_1 a0_3 t175 (t183.toList != a0_2.toList)) else (copyholdlaw01_OctetBack.j1 kj2 l0_1 a0_3 t175 true)) else (copyholdlaw01_OctetBack.j1 kj2 l0_1 a0_3 t175 true)) else (copyholdlaw01_OctetBack.j1 kj2 l0_1 a0_3 t175 true)) else (copyholdlaw01_OctetBack.j1 kj2 l0_1 a0_3 t175 true))) = some r := H
            have A15 := Aside0.mk A150
            clear A150
            replace H := Option.bind_eq_some_iff.mp H
            obtain ⟨t187, A160, H⟩ := H
            replace H : (if t181 = 0 then (if t184 = 0 then (if t179 = a0_0 then (if t187 = true then (copyholdlaw01_OctetBack.j1 kj2 l0_1 a0_3 t175 (t183.toList != a0_2.toList)) else (copyholdlaw01_OctetBack.j1 kj2 l0_1 a0_3 t175 true)) else (copyholdlaw01_OctetBack.j1 kj2 l0_1 a0_3 t175 true)) else (copyholdlaw01_OctetBack.j1 kj2 l0_1 a0_3 t175 true)) else (copyholdlaw01_OctetBack.j1 kj2 l0_1 a0_3 t175 true)) = some r := H
            have A16 := Aside0.mk A160
            clear A160
            have HC17 := Aside0.mk H
            clear H
            go_upto_region 12 with (first | ((with_reducible refine gate_callee (f := 16) rfl ?_); refine goesL_ (some 39) rfl rfl Try.func16 (by kernel_rfl) rfl #[.int .u64 a0_0] rfl (by (try simp only [List.map_toArray, List.map_cons, List.map_nil]); first | done | rfl | (simp only [List.length_drop, List.length_take]; rfl)) ?_; (with_reducible refine (octet_Num.calls a0_0 t177 _ A10.out).mono ?_); rintro e w18 ⟨rfl, hb⟩; refine ⟨_, rfl, ?_⟩; have n0_ := Aside0.mk (blk_below (g := gb174) (o := .cells #[.int .u64 a0_0, .slice A0_1 l0_1.length c0_1, .string a0_2, .int .i64 a0_3] 50 (0, 0)) (by (with_reducible repeat (first | refine blk_drewN ?_ _ | refine blk_drew ?_ | refine blk_alloc ?_ _)); exact BK174.out) hb); have n1_ := Aside0.mk (below_step (by repeat (first | (with_reducible first | exact HB.out | apply below_alloc | apply pw_below_drewN | apply below_drew1 | refine below_set ?_ GE174.out) | exact HB.out)) hb); clear BK174; clear HB; have BK174 := n0_; have HB := n1_; clear n0_ n1_; (try clear hb); (try clear hb2); (try clear hk); (try clear hi)) | ((with_reducible refine gate_callee (f := 18) rfl ?_); refine goesL_ (some 41) rfl rfl Try.func18 (by kernel_rfl) rfl #[.slice A0_1 l0_1.length c0_1] rfl (by (try simp only [List.map_toArray, List.map_cons, List.map_nil]); first | done | rfl | (simp only [List.length_drop, List.length_take]; rfl)) ?_; (with_reducible refine (octet_List.calls _ _ l0_1 t178 _ ?side1 ?side2 A11.out).mono ?_); (case side1 => repeat (first | exact (Kd.C_below HR0_1.out HB.out) | (with_reducible refine Kd.C_alloc ?_ _) | (with_reducible refine Kd.C_drewN ?_ _) | (with_reducible refine Kd.C_drew ?_))); (case side2 => exact HC0_1.out); rintro e w19 ⟨rfl, hb⟩; refine ⟨_, rfl, ?_⟩; have n0_ := Aside0.mk (blk_below (g := gb174) (o := .cells #[.int .u64 a0_0, .slice A0_1 l0_1.length c0_1, .string a0_2, .int .i64 a0_3] 50 (0, 0)) (by (with_reducible repeat (first | refine blk_drewN ?_ _ | refine blk_drew ?_ | refine blk_alloc ?_ _)); exact BK174.out) hb); have n1_ := Aside0.mk (below_step (by repeat (first | (with_reducible first | exact HB.out | apply below_alloc | apply pw_below_drewN | apply below_drew1 | refine below_set ?_ GE174.out) | exact HB.out)) hb); clear BK174; clear HB; have BK174 := n0_; have HB := n1_; clear n0_ n1_; (try clear hb); (try clear hb2); (try clear hk); (try clear hi)) | ((with_reducible refine gate_callee (f := 23) rfl ?_); refine goesL_ (some 47) rfl rfl Try.func23 (by kernel_rfl) rfl #[.string ((t177 ++ t178) ++ a0_2)] rfl (by (try simp only [List.map_toArray, List.map_cons, List.map_nil]); first | done | rfl | (simp only [List.length_drop, List.length_take]; rfl)) ?_; (with_reducible refine (octet_TakeNum.calls ((t177 ++ t178) ++ a0_2) t179 t180 t181 _ A14.out).mono ?_); rintro e w' ⟨rfl, ⟨nd, rfl⟩⟩; refine ⟨_, rfl, ?_⟩) | ((with_reducible refine gate_callee (f := 26) rfl ?_); refine goesL_ (some 55) rfl rfl Try.func26 (by kernel_rfl) rfl #[.string t180, .int .i64 (l0_1.length : Int), .int .i64 5000] rfl (by (try simp only [List.map_toArray, List.map_cons, List.map_nil]); first | done | rfl | (simp only [List.length_drop, List.length_take]; rfl)) ?_; (with_reducible refine (octet_TakeList.calls t180 (l0_1.length : Int) 5000 t182 t183 t184 _ A15.out).mono ?_); rintro e w20 ⟨v185, rfl, ho0, hb⟩; refine ⟨_, rfl, ?_⟩; have n0_ := Aside0.mk (Kd.R_lower ho0 (below_size (by repeat (first | (with_reducible first | exact HB.out | apply below_alloc | apply pw_below_drewN | apply below_drew1 | refine below_set ?_ GE174.out) | exact HB.out)))); have n1_ := Aside0.mk (blk_below (g := gb174) (o := .cells #[.int .u64 a0_0, .slice A0_1 l0_1.length c0_1, .string a0_2, .int .i64 a0_3] 50 (0, 0)) (by (with_reducible repeat (first | refine blk_drewN ?_ _ | refine blk_drew ?_ | refine blk_alloc ?_ _)); exact BK174.out) hb); have n2_ := Aside0.mk (below_step (by repeat (first | (with_reducible first | exact HB.out | apply below_alloc | apply pw_below_drewN | apply below_drew1 | refine below_set ?_ GE174.out) | exact HB.out)) hb); clear BK174; clear HB; have HO186 := n0_; have BK174 := n1_; have HB := n2_; clear n0_ n1_ n2_; (try clear hb); (try clear hb2); (try clear hk); (try clear hi); (try clear ho0); obtain ⟨Ao21, co21, eo21⟩ := Kd.R_slice HO186.out; subst eo21) | ((with_reducible refine gate_callee (f := 28) rfl ?_); refine goesL_ (some 61) rfl rfl Try.func28 (by kernel_rfl) rfl #[.slice Ao21 t182.length co21, .slice A0_1 l0_1.length c0_1] rfl (by (try simp only [List.map_toArray, List.map_cons, List.map_nil]); first | done | rfl | (simp only [List.length_drop, List.length_take]; rfl)) ?_; (with_reducible refine (copyholdref01_Strings.calls kj2 _ _ t182 _ _ l0_1 t187 _ ?side1 ?side2 ?side3 ?side4 A16.out).mono ?_); (case side1 => repeat (first | exact (Kd.R_reads' HO186.out).2.2 | (with_reducible refine Kd.C_alloc ?_ _) | (with_reducible refine Kd.C_drewN ?_ _) | (with_reducible refine Kd.C_drew ?_))); (case side2 => exact (Kd.R_reads' HO186.out).2.1); (case side3 => repeat (first | exact (Kd.C_below HR0_1.out HB.out) | (with_reducible refine Kd.C_alloc ?_ _) | (with_reducible refine Kd.C_drewN ?_ _) | (with_reducible refine Kd.C_drew ?_))); (case side4 => exact HC0_1.out); rintro e w' ⟨rfl, ⟨nd, rfl⟩⟩; refine ⟨_, rfl, ?_⟩))
            (try simp only [Act.put, List.setIfInBounds_toArray, List.set_cons_zero, List.set_cons_succ])
            go_cut [81] (fun v81 wc => ∃ (kq : Nat) (x81_16 : Bool), v81 = .bool x81_16 ∧ Aside0 (copyholdlaw01_OctetBack.j1 kq l0_1 a0_3 t175 x81_16 = some r) ∧ Aside0 (kq ≤ kj2) ∧ Aside0 (wc.heap[gb174]? = some (.cells #[.int .u64 a0_0, (.slice A0_1 l0_1.length c0_1), .string a0_2, .int .i64 a0_3] 50 (0, 0))) ∧ Aside0 (Below w.heap.size w wc))
            case first =>
              have H := HC17.out
              clear HC17
              by_cases c22 : t181 = 0
              · rw [if_pos c22] at H
                have c22b0 : (t181 == 0) = true := beq_iff_eq.mpr c22
                have c22b1 : (t181 != 0) = false := bne_eq_false_iff_eq.mpr c22
                clear c22
                (first | rw [c22b0] | (simp only [i64_w, i32_w]; rw [c22b0]) | skip)
                by_cases c23 : t184 = 0
                · rw [if_pos c23] at H
                  have c23b0 : (t184 == 0) = true := beq_iff_eq.mpr c23
                  have c23b1 : (t184 != 0) = false := bne_eq_false_iff_eq.mpr c23
                  clear c23
                  by_cases c24 : t179 = a0_0
                  · rw [if_pos c24] at H
                    have c24b0 : (t179 == a0_0) = true := beq_iff_eq.mpr c24
                    have c24b1 : (t179 != a0_0) = false := bne_eq_false_iff_eq.mpr c24
                    clear c24
                    by_cases c25 : t187 = true
                    · subst c25
                      have H1 : (copyholdlaw01_OctetBack.j1 kj2 l0_1 a0_3 t175 (t183.toList != a0_2.toList)) = some r := by rw [if_pos rfl] at H; exact H
                      clear H
                      have H := H1
                      clear H1
                      have H' := Aside0.mk H
                      clear H
                      go_wp2
                      go_meet
                      case rel => exact ⟨_, ((t183.toList != a0_2.toList)), (by first | rfl | (simp; done) | (simp [*]; done)), H', ⟨by have := HJ2.out; first | omega | exact Nat.le_refl _⟩, ⟨by (with_reducible repeat (first | refine blk_drewN ?_ _ | refine blk_drew ?_ | refine blk_alloc ?_ _)); exact BK174.out⟩, ⟨by repeat (first | (with_reducible first | exact HB.out | apply below_alloc | apply pw_below_drewN | apply below_drew1 | refine below_set ?_ GE174.out) | exact HB.out)⟩⟩
                    · replace c25 := Bool.eq_false_iff.mpr c25
                      subst c25
                      have H1 : (copyholdlaw01_OctetBack.j1 kj2 l0_1 a0_3 t175 true) = some r := by rw [if_neg (show ¬ (false = true) by decide)] at H; exact H
                      clear H
                      have H := H1
                      clear H1
                      have H' := Aside0.mk H
                      clear H
                      go_wp2
                      go_meet
                      case rel => exact ⟨_, (true), (by first | rfl | (simp; done) | (simp [*]; done)), H', ⟨by have := HJ2.out; first | omega | exact Nat.le_refl _⟩, ⟨by (with_reducible repeat (first | refine blk_drewN ?_ _ | refine blk_drew ?_ | refine blk_alloc ?_ _)); exact BK174.out⟩, ⟨by repeat (first | (with_reducible first | exact HB.out | apply below_alloc | apply pw_below_drewN | apply below_drew1 | refine below_set ?_ GE174.out) | exact HB.out)⟩⟩
                  · rw [if_neg c24] at H
                    have c24b0 : (t179 == a0_0) = false := beq_eq_false_iff_ne.mpr c24
                    have c24b1 : (t179 != a0_0) = true := bne_iff_ne.mpr c24
                    have H' := Aside0.mk H
                    clear H
                    go_wp2
                    go_meet
                    case rel => exact ⟨_, (true), (by first | rfl | (simp; done) | (simp [*]; done)), H', ⟨by have := HJ2.out; first | omega | exact Nat.le_refl _⟩, ⟨by (with_reducible repeat (first | refine blk_drewN ?_ _ | refine blk_drew ?_ | refine blk_alloc ?_ _)); exact BK174.out⟩, ⟨by repeat (first | (with_reducible first | exact HB.out | apply below_alloc | apply pw_below_drewN | apply below_drew1 | refine below_set ?_ GE174.out) | exact HB.out)⟩⟩
                · rw [if_neg c23] at H
                  have c23b0 : (t184 == 0) = false := beq_eq_false_iff_ne.mpr c23
                  have c23b1 : (t184 != 0) = true := bne_iff_ne.mpr c23
                  have H' := Aside0.mk H
                  clear H
                  go_wp2
                  go_meet
                  case rel => exact ⟨_, (true), (by first | rfl | (simp; done) | (simp [*]; done)), H', ⟨by have := HJ2.out; first | omega | exact Nat.le_refl _⟩, ⟨by (with_reducible repeat (first | refine blk_drewN ?_ _ | refine blk_drew ?_ | refine blk_alloc ?_ _)); exact BK174.out⟩, ⟨by repeat (first | (with_reducible first | exact HB.out | apply below_alloc | apply pw_below_drewN | apply below_drew1 | refine below_set ?_ GE174.out) | exact HB.out)⟩⟩
              · rw [if_neg c22] at H
                have c22b0 : (t181 == 0) = false := beq_eq_false_iff_ne.mpr c22
                have c22b1 : (t181 != 0) = true := bne_iff_ne.mpr c22
                (first | rw [c22b0] | (simp only [i64_w, i32_w]; rw [c22b0]) | skip)
                have H' := Aside0.mk H
                clear H
                go_wp2
                go_meet
                case rel => exact ⟨_, (true), (by first | rfl | (simp; done) | (simp [*]; done)), H', ⟨by have := HJ2.out; first | omega | exact Nat.le_refl _⟩, ⟨by (with_reducible repeat (first | refine blk_drewN ?_ _ | refine blk_drew ?_ | refine blk_alloc ?_ _)); exact BK174.out⟩, ⟨by repeat (first | (with_reducible first | exact HB.out | apply below_alloc | apply pw_below_drewN | apply below_drew1 | refine below_set ?_ GE174.out) | exact HB.out)⟩⟩
            case rest =>
              clear HC17
              try clear c1
              try clear c2
              try clear p2
              try clear c7
              try clear c8
              try clear c8b0
              try clear c9
              try clear c10
              try clear c12
              try clear c12b0
              try clear c12b1
              try clear c12b2
              try clear c13
              try clear c13b0
              try clear c13b1
              try clear c13b2
              try clear c16
              try clear c18
              try clear c22
              try clear c22b0
              try clear c22b1
              try clear c23
              try clear c23b0
              try clear c23b1
              try clear c24
              try clear c24b0
              try clear c24b1
              try clear c25
              try clear hcz5_0
              try clear hcz5_1
              try clear hcz5_2
              try clear hcz5_3
              try clear hfz5_0
              try clear hfz5_1
              try clear hfz5_2
              try clear hfz5_3
              try clear p2
              obtain ⟨kq, x81_16, rfl, HA, HJ16, BK174, HB⟩ := hcut
              cases kq with
              | zero => exact absurd HA.out (by simp [copyholdlaw01_OctetBack.j1])
              | succ kj16 =>
                have H := HA.out
                clear HA
                simp only [copyholdlaw01_OctetBack.j1] at H
                by_cases c26 : x81_16 = true
                · subst c26
                  have H1 : (some false) = some r := by rw [if_pos rfl] at H; exact H
                  clear H
                  have H := H1
                  clear H1
                  obtain rfl := Option.some.inj H
                  go_wp2
                  go_ret
                  exact ⟨by first | rfl | (simp [errW_none, errW_some] <;> rfl) | (simp [*, errW_none, errW_some] <;> rfl), by repeat (first | (with_reducible first | exact HB.out | apply below_alloc | apply pw_below_drewN | apply below_drew1 | refine below_set ?_ GE174.out) | exact HB.out)⟩
                · replace c26 := Bool.eq_false_iff.mpr c26
                  subst c26
                  have H1 : ((octet_List.f l0_1).bind fun t188 => (if a0_3 < 0 then (some t175) else (if a0_3 ≥ (t188.size : Int) then (some t175) else (if 0 ≤ a0_3 then (if a0_3 ≤ (t188.size : Int) then ((octet_TakeList.f (t188.extract 0 (a0_3 : Int).toNat) (l0_1.length : Int) 5000).bind fun bt189 => (if t175 = true then (some (bt189.2.2 == 2)) else (some false))) else (none)) else (none))))) = some r := by rw [if_neg (show ¬ (false = true) by decide)] at H; exact H
                  clear H
                  have H := H1
                  clear H1
                  replace H := Option.bind_eq_some_iff.mp H
                  obtain ⟨t188, A270, H⟩ := H
                  replace H : (if a0_3 < 0 then (some t175) else (if a0_3 ≥ (t188.size : Int) then (some t175) else (if 0 ≤ a0_3 then (if a0_3 ≤ (t188.size : Int) then ((octet_TakeList.f (t188.extract 0 (a0_3 : Int).toNat) (l0_1.length : Int) 5000).bind fun bt189 => (if t175 = true then (some (bt189.2.2 == 2)) else (some false))) else (none)) else (none)))) = some r := H
                  have A27 := Aside0.mk A270
                  clear A270
                  by_cases c28 : a0_3 < 0
                  · rw [if_pos c28] at H
                    have c28b0 : decide (a0_3 < 0) = true := decide_eq_true c28
                    clear c28
                    obtain rfl := Option.some.inj H
                    go_wp2_with (first | ((with_reducible refine gate_callee (f := 18) rfl ?_); refine goesL_ (some 83) rfl rfl Try.func18 (by kernel_rfl) rfl #[.slice A0_1 l0_1.length c0_1] rfl (by (try simp only [List.map_toArray, List.map_cons, List.map_nil]); first | done | rfl | (simp only [List.length_drop, List.length_take]; rfl)) ?_; (with_reducible refine (octet_List.calls _ _ l0_1 t188 _ ?side1 ?side2 A27.out).mono ?_); (case side1 => repeat (first | exact (Kd.C_below HR0_1.out HB.out) | (with_reducible refine Kd.C_alloc ?_ _) | (with_reducible refine Kd.C_drewN ?_ _) | (with_reducible refine Kd.C_drew ?_))); (case side2 => exact HC0_1.out); rintro e w29 ⟨rfl, hb⟩; refine ⟨_, rfl, ?_⟩; have n0_ := Aside0.mk (blk_below (g := gb174) (o := .cells #[.int .u64 a0_0, .slice A0_1 l0_1.length c0_1, .string a0_2, .int .i64 a0_3] 50 (0, 0)) (by (with_reducible repeat (first | refine blk_drewN ?_ _ | refine blk_drew ?_ | refine blk_alloc ?_ _)); exact BK174.out) hb); have n1_ := Aside0.mk (below_step (by repeat (first | (with_reducible first | exact HB.out | apply below_alloc | apply pw_below_drewN | apply below_drew1 | refine below_set ?_ GE174.out) | exact HB.out)) hb); clear BK174; clear HB; have BK174 := n0_; have HB := n1_; clear n0_ n1_; (try clear hb); (try clear hb2); (try clear hk); (try clear hi)))
                    go_ret
                    exact ⟨by first | rfl | (simp [errW_none, errW_some] <;> rfl) | (simp [*, errW_none, errW_some] <;> rfl), by repeat (first | (with_reducible first | exact HB.out | apply below_alloc | apply pw_below_drewN | apply below_drew1 | refine below_set ?_ GE174.out) | exact HB.out)⟩
                  · rw [if_neg c28] at H
                    have c28b0 : decide (a0_3 < 0) = false := decide_eq_false c28
                    clear c28
                    by_cases c30 : a0_3 ≥ (t188.size : Int)
                    · rw [if_pos c30] at H
                      have c30b0 : decide ((t188.size : Int) ≤ a0_3) = true := decide_eq_true c30
                      clear c30
                      obtain rfl := Option.some.inj H
                      go_wp2_with (first | ((with_reducible refine gate_callee (f := 18) rfl ?_); refine goesL_ (some 83) rfl rfl Try.func18 (by kernel_rfl) rfl #[.slice A0_1 l0_1.length c0_1] rfl (by (try simp only [List.map_toArray, List.map_cons, List.map_nil]); first | done | rfl | (simp only [List.length_drop, List.length_take]; rfl)) ?_; (with_reducible refine (octet_List.calls _ _ l0_1 t188 _ ?side1 ?side2 A27.out).mono ?_); (case side1 => repeat (first | exact (Kd.C_below HR0_1.out HB.out) | (with_reducible refine Kd.C_alloc ?_ _) | (with_reducible refine Kd.C_drewN ?_ _) | (with_reducible refine Kd.C_drew ?_))); (case side2 => exact HC0_1.out); rintro e w31 ⟨rfl, hb⟩; refine ⟨_, rfl, ?_⟩; have n0_ := Aside0.mk (blk_below (g := gb174) (o := .cells #[.int .u64 a0_0, .slice A0_1 l0_1.length c0_1, .string a0_2, .int .i64 a0_3] 50 (0, 0)) (by (with_reducible repeat (first | refine blk_drewN ?_ _ | refine blk_drew ?_ | refine blk_alloc ?_ _)); exact BK174.out) hb); have n1_ := Aside0.mk (below_step (by repeat (first | (with_reducible first | exact HB.out | apply below_alloc | apply pw_below_drewN | apply below_drew1 | refine below_set ?_ GE174.out) | exact HB.out)) hb); clear BK174; clear HB; have BK174 := n0_; have HB := n1_; clear n0_ n1_; (try clear hb); (try clear hb2); (try clear hk); (try clear hi)))
                      go_ret
                      exact ⟨by first | rfl | (simp [errW_none, errW_some] <;> rfl) | (simp [*, errW_none, errW_some] <;> rfl), by repeat (first | (with_reducible first | exact HB.out | apply below_alloc | apply pw_below_drewN | apply below_drew1 | refine below_set ?_ GE174.out) | exact HB.out)⟩
                    · rw [if_neg c30] at H
                      have c30b0 : decide ((t188.size : Int) ≤ a0_3) = false := decide_eq_false c30
                      clear c30
                      by_cases c32 : 0 ≤ a0_3
                      · rw [if_pos c32] at H
                        have c32b0 := eq_true c32
                        have c32b1 : decide (0 ≤ a0_3) = true := decide_eq_true c32
                        clear c32
                        by_cases c33 : a0_3 ≤ (t188.size : Int)
                        · rw [if_pos c33] at H
                          have c33b0 := eq_true c33
                          have c33b1 : decide (a0_3 ≤ (t188.size : Int)) = true := decide_eq_true c33
                          clear c33
                          replace H := Option.bind_eq_some_iff.mp H
                          obtain ⟨⟨t189, t190, t191⟩, A340, H⟩ := H
                          replace H : (if t175 = true then (some (t191 == 2)) else (some false)) = some r := H
                          have A34 := Aside0.mk A340
                          clear A340
                          by_cases c35 : t175 = true
                          · subst c35
                            have H1 : (some (t191 == 2)) = some r := by rw [if_pos rfl] at H; exact H
                            clear H
                            have H := H1
                            clear H1
                            obtain rfl := Option.some.inj H
                            go_wp2_with (first | ((with_reducible refine gate_callee (f := 18) rfl ?_); refine goesL_ (some 83) rfl rfl Try.func18 (by kernel_rfl) rfl #[.slice A0_1 l0_1.length c0_1] rfl (by (try simp only [List.map_toArray, List.map_cons, List.map_nil]); first | done | rfl | (simp only [List.length_drop, List.length_take]; rfl)) ?_; (with_reducible refine (octet_List.calls _ _ l0_1 t188 _ ?side1 ?side2 A27.out).mono ?_); (case side1 => repeat (first | exact (Kd.C_below HR0_1.out HB.out) | (with_reducible refine Kd.C_alloc ?_ _) | (with_reducible refine Kd.C_drewN ?_ _) | (with_reducible refine Kd.C_drew ?_))); (case side2 => exact HC0_1.out); rintro e w36 ⟨rfl, hb⟩; refine ⟨_, rfl, ?_⟩; have n0_ := Aside0.mk (blk_below (g := gb174) (o := .cells #[.int .u64 a0_0, .slice A0_1 l0_1.length c0_1, .string a0_2, .int .i64 a0_3] 50 (0, 0)) (by (with_reducible repeat (first | refine blk_drewN ?_ _ | refine blk_drew ?_ | refine blk_alloc ?_ _)); exact BK174.out) hb); have n1_ := Aside0.mk (below_step (by repeat (first | (with_reducible first | exact HB.out | apply below_alloc | apply pw_below_drewN | apply below_drew1 | refine below_set ?_ GE174.out) | exact HB.out)) hb); clear BK174; clear HB; have BK174 := n0_; have HB := n1_; clear n0_ n1_; (try clear hb); (try clear hb2); (try clear hk); (try clear hi)) | ((with_reducible refine gate_callee (f := 26) rfl ?_); refine goesL_ (some 99) rfl rfl Try.func26 (by kernel_rfl) rfl #[.string (t188.extract 0 (a0_3 : Int).toNat), .int .i64 (l0_1.length : Int), .int .i64 5000] rfl (by (try simp only [List.map_toArray, List.map_cons, List.map_nil]); first | done | rfl | (simp only [List.length_drop, List.length_take]; rfl)) ?_; (with_reducible refine (octet_TakeList.calls (t188.extract 0 (a0_3 : Int).toNat) (l0_1.length : Int) 5000 t189 t190 t191 _ A34.out).mono ?_); rintro e w37 ⟨v192, rfl, ho0, hb⟩; refine ⟨_, rfl, ?_⟩; have n0_ := Aside0.mk (Kd.R_lower ho0 (below_size (by repeat (first | (with_reducible first | exact HB.out | apply below_alloc | apply pw_below_drewN | apply below_drew1 | refine below_set ?_ GE174.out) | exact HB.out)))); have n1_ := Aside0.mk (blk_below (g := gb174) (o := .cells #[.int .u64 a0_0, .slice A0_1 l0_1.length c0_1, .string a0_2, .int .i64 a0_3] 50 (0, 0)) (by (with_reducible repeat (first | refine blk_drewN ?_ _ | refine blk_drew ?_ | refine blk_alloc ?_ _)); exact BK174.out) hb); have n2_ := Aside0.mk (below_step (by repeat (first | (with_reducible first | exact HB.out | apply below_alloc | apply pw_below_drewN | apply below_drew1 | refine below_set ?_ GE174.out) | exact HB.out)) hb); clear BK174; clear HB; have HO193 := n0_; have BK174 := n1_; have HB := n2_; clear n0_ n1_ n2_; (try clear hb); (try clear hb2); (try clear hk); (try clear hi); (try clear ho0)))
                            go_ret
                            exact ⟨by first | rfl | (simp [errW_none, errW_some] <;> rfl) | (simp [*, errW_none, errW_some] <;> rfl), by repeat (first | (with_reducible first | exact HB.out | apply below_alloc | apply pw_below_drewN | apply below_drew1 | refine below_set ?_ GE174.out) | exact HB.out)⟩
                          · replace c35 := Bool.eq_false_iff.mpr c35
                            subst c35
                            have H1 : (some false) = some r := by rw [if_neg (show ¬ (false = true) by decide)] at H; exact H
                            clear H
                            have H := H1
                            clear H1
                            obtain rfl := Option.some.inj H
                            go_wp2_with (first | ((with_reducible refine gate_callee (f := 18) rfl ?_); refine goesL_ (some 83) rfl rfl Try.func18 (by kernel_rfl) rfl #[.slice A0_1 l0_1.length c0_1] rfl (by (try simp only [List.map_toArray, List.map_cons, List.map_nil]); first | done | rfl | (simp only [List.length_drop, List.length_take]; rfl)) ?_; (with_reducible refine (octet_List.calls _ _ l0_1 t188 _ ?side1 ?side2 A27.out).mono ?_); (case side1 => repeat (first | exact (Kd.C_below HR0_1.out HB.out) | (with_reducible refine Kd.C_alloc ?_ _) | (with_reducible refine Kd.C_drewN ?_ _) | (with_reducible refine Kd.C_drew ?_))); (case side2 => exact HC0_1.out); rintro e w38 ⟨rfl, hb⟩; refine ⟨_, rfl, ?_⟩; have n0_ := Aside0.mk (blk_below (g := gb174) (o := .cells #[.int .u64 a0_0, .slice A0_1 l0_1.length c0_1, .string a0_2, .int .i64 a0_3] 50 (0, 0)) (by (with_reducible repeat (first | refine blk_drewN ?_ _ | refine blk_drew ?_ | refine blk_alloc ?_ _)); exact BK174.out) hb); have n1_ := Aside0.mk (below_step (by repeat (first | (with_reducible first | exact HB.out | apply below_alloc | apply pw_below_drewN | apply below_drew1 | refine below_set ?_ GE174.out) | exact HB.out)) hb); clear BK174; clear HB; have BK174 := n0_; have HB := n1_; clear n0_ n1_; (try clear hb); (try clear hb2); (try clear hk); (try clear hi)) | ((with_reducible refine gate_callee (f := 26) rfl ?_); refine goesL_ (some 99) rfl rfl Try.func26 (by kernel_rfl) rfl #[.string (t188.extract 0 (a0_3 : Int).toNat), .int .i64 (l0_1.length : Int), .int .i64 5000] rfl (by (try simp only [List.map_toArray, List.map_cons, List.map_nil]); first | done | rfl | (simp only [List.length_drop, List.length_take]; rfl)) ?_; (with_reducible refine (octet_TakeList.calls (t188.extract 0 (a0_3 : Int).toNat) (l0_1.length : Int) 5000 t189 t190 t191 _ A34.out).mono ?_); rintro e w39 ⟨v192, rfl, ho0, hb⟩; refine ⟨_, rfl, ?_⟩; have n0_ := Aside0.mk (Kd.R_lower ho0 (below_size (by repeat (first | (with_reducible first | exact HB.out | apply below_alloc | apply pw_below_drewN | apply below_drew1 | refine below_set ?_ GE174.out) | exact HB.out)))); have n1_ := Aside0.mk (blk_below (g := gb174) (o := .cells #[.int .u64 a0_0, .slice A0_1 l0_1.length c0_1, .string a0_2, .int .i64 a0_3] 50 (0, 0)) (by (with_reducible repeat (first | refine blk_drewN ?_ _ | refine blk_drew ?_ | refine blk_alloc ?_ _)); exact BK174.out) hb); have n2_ := Aside0.mk (below_step (by repeat (first | (with_reducible first | exact HB.out | apply below_alloc | apply pw_below_drewN | apply below_drew1 | refine below_set ?_ GE174.out) | exact HB.out)) hb); clear BK174; clear HB; have HO193 := n0_; have BK174 := n1_; have HB := n2_; clear n0_ n1_ n2_; (try clear hb); (try clear hb2); (try clear hk); (try clear hi); (try clear ho0)))
                            go_ret
                            exact ⟨by first | rfl | (simp [errW_none, errW_some] <;> rfl) | (simp [*, errW_none, errW_some] <;> rfl), by repeat (first | (with_reducible first | exact HB.out | apply below_alloc | apply pw_below_drewN | apply below_drew1 | refine below_set ?_ GE174.out) | exact HB.out)⟩
                        · rw [if_neg c33] at H
                          exact absurd H (by simp)
                      · rw [if_neg c32] at H
                        exact absurd H (by simp)
          · rw [if_neg c13] at H
            exact absurd H (by simp)
        · rw [if_neg c12] at H
          exact absurd H (by simp)

/-! ### copyholdlaw01_OctetOnly: function 8 -/
mutual
def copyholdlaw01_OctetOnly.j0 : Nat → ByteArray → Int → Int → Bool → Bool → Option (Bool)
  | 0, _, _, _, _, _ => none
  | k + 1, x0, x1, x2, x7, x37 => if x37 = true then (some false) else ((octet_TakeList.f x0 x1 x2).bind fun bt199 => (if bt199.2.2 = 0 then ((octet_List.f bt199.1).bind fun t204 => (if t204.size + bt199.2.1.size ≤ 9223372036854775807 then (copyholdlaw01_OctetOnly.j1 k x0 x1 x7 ((t204 ++ bt199.2.1).toList != x0.toList)) else (none))) else (copyholdlaw01_OctetOnly.j1 k x0 x1 x7 false)))
def copyholdlaw01_OctetOnly.j1 : Nat → ByteArray → Int → Bool → Bool → Option (Bool)
  | 0, _, _, _, _ => none
  | k + 1, x0, x1, x7, x55 => if x55 = true then (some false) else ((octet_TakeText.f x0 x1).bind fun bt205 => (if x7 = true then (if bt205.2.2 = 0 then ((octet_Text.f bt205.1).bind fun t208 => (if t208.size + bt205.2.1.size ≤ 9223372036854775807 then (if (t208 ++ bt205.2.1).toList = x0.toList then (some (decide ((bt205.1.size : Int) ≤ x1))) else (some false)) else (none))) else (some true)) else (some false)))
end
def copyholdlaw01_OctetOnly.f (k : Nat) (a0 : ByteArray) (a1 : Int) (a2 : Int) : Option (Bool) := (copyholdlaw01_shown.f).bind fun t194 => (if (a0.size : Int) > 5000 then (some t194) else ((octet_TakeNum.f a0).bind fun bt195 => (if bt195.2.2 = 0 then ((octet_Num.f bt195.1).bind fun t198 => (if t198.size + bt195.2.1.size ≤ 9223372036854775807 then (copyholdlaw01_OctetOnly.j0 k a0 a1 a2 t194 ((t198 ++ bt195.2.1).toList != a0.toList)) else (none))) else (copyholdlaw01_OctetOnly.j0 k a0 a1 a2 t194 false))))
theorem copyholdlaw01_OctetOnly.mono_l : ∀ k, (∀ y0 y1 y2 y3 y4, LeO (copyholdlaw01_OctetOnly.j0 k y0 y1 y2 y3 y4) (copyholdlaw01_OctetOnly.j0 (k + 1) y0 y1 y2 y3 y4)) ∧ (∀ y0 y1 y2 y3, LeO (copyholdlaw01_OctetOnly.j1 k y0 y1 y2 y3) (copyholdlaw01_OctetOnly.j1 (k + 1) y0 y1 y2 y3))
  | 0 => ⟨fun _ _ _ _ _ r h => by simp [copyholdlaw01_OctetOnly.j0] at h, fun _ _ _ _ r h => by simp [copyholdlaw01_OctetOnly.j1] at h⟩
  | k + 1 => by
    obtain ⟨ih0, ih1⟩ := copyholdlaw01_OctetOnly.mono_l k
    refine ⟨?_, ?_⟩
    · intro y0 y1 y2 y3 y4
      unfold copyholdlaw01_OctetOnly.j0
      repeat' first
      | (with_reducible exact ih0 _ _ _ _ _)
      | (with_reducible exact ih1 _ _ _ _)
      | (with_reducible exact LeO.refl _)
      | (with_reducible exact LeO.none _)
      | (with_reducible refine LeO.ite ?_ ?_)
      | (with_reducible refine LeO.bind ?_ (fun _ => ?_))
      | exact ih0 _ _ _ _ _
      | exact ih1 _ _ _ _
      | exact LeO.none _
      | refine LeO.ite ?_ ?_
      | refine LeO.bind ?_ (fun _ => ?_)
    · intro y0 y1 y2 y3
      unfold copyholdlaw01_OctetOnly.j1
      repeat' first
      | (with_reducible exact ih0 _ _ _ _ _)
      | (with_reducible exact ih1 _ _ _ _)
      | (with_reducible exact LeO.refl _)
      | (with_reducible exact LeO.none _)
      | (with_reducible refine LeO.ite ?_ ?_)
      | (with_reducible refine LeO.bind ?_ (fun _ => ?_))
      | exact ih0 _ _ _ _ _
      | exact ih1 _ _ _ _
      | exact LeO.none _
      | refine LeO.ite ?_ ?_
      | refine LeO.bind ?_ (fun _ => ?_)
theorem copyholdlaw01_OctetOnly.mono : ∀ a0 a1 a2 k, LeO (copyholdlaw01_OctetOnly.f k a0 a1 a2) (copyholdlaw01_OctetOnly.f (k + 1) a0 a1 a2) := by
  intro a0 a1 a2 k
  obtain ⟨ih0, ih1⟩ := copyholdlaw01_OctetOnly.mono_l k
  unfold copyholdlaw01_OctetOnly.f
  repeat' first
      | (with_reducible exact ih0 _ _ _ _ _)
      | (with_reducible exact ih1 _ _ _ _)
      | (with_reducible exact LeO.refl _)
      | (with_reducible exact LeO.none _)
      | (with_reducible refine LeO.ite ?_ ?_)
      | (with_reducible refine LeO.bind ?_ (fun _ => ?_))
      | exact ih0 _ _ _ _ _
      | exact ih1 _ _ _ _
      | exact LeO.none _
      | refine LeO.ite ?_ ?_
      | refine LeO.bind ?_ (fun _ => ?_)
set_option maxHeartbeats 8000000 in
set_option maxRecDepth 100000 in
theorem copyholdlaw01_OctetOnly.calls (k : Nat) (a0 : ByteArray) (a1 : Int) (a2 : Int) (r : Bool) (w : World) (h : copyholdlaw01_OctetOnly.f k a0 a1 a2 = some r) :
    Calls Try.prog 8 #[.string a0, .int .i64 a1, .int .i64 a2] w fun e w' => e = .returned (.bool r) ∧ Below w.heap.size w w' := by
  have HB := Aside0.mk (Below.refl w.heap.size w)
  have H : ((copyholdlaw01_shown.f).bind fun t194 => (if (a0.size : Int) > 5000 then (some t194) else ((octet_TakeNum.f a0).bind fun bt195 => (if bt195.2.2 = 0 then ((octet_Num.f bt195.1).bind fun t198 => (if t198.size + bt195.2.1.size ≤ 9223372036854775807 then (copyholdlaw01_OctetOnly.j0 k a0 a1 a2 t194 ((t198 ++ bt195.2.1).toList != a0.toList)) else (none))) else (copyholdlaw01_OctetOnly.j0 k a0 a1 a2 t194 false))))) = some r := h
  clear h
  replace H := Option.bind_eq_some_iff.mp H
  obtain ⟨t194, A40, H⟩ := H
  replace H : (if (a0.size : Int) > 5000 then (some t194) else ((octet_TakeNum.f a0).bind fun bt195 => (if bt195.2.2 = 0 then ((octet_Num.f bt195.1).bind fun t198 => (if t198.size + bt195.2.1.size ≤ 9223372036854775807 then (copyholdlaw01_OctetOnly.j0 k a0 a1 a2 t194 ((t198 ++ bt195.2.1).toList != a0.toList)) else (none))) else (copyholdlaw01_OctetOnly.j0 k a0 a1 a2 t194 false)))) = some r := H
  have A4 := Aside0.mk A40
  clear A40
  by_cases c5 : (a0.size : Int) > 5000
  · rw [if_pos c5] at H
    have c5b0 : decide (5000 < (a0.size : Int)) = true := decide_eq_true c5
    have c5b1 : decide (5000 < a0.size) = true := decide_eq_true (by omega)
    clear c5
    obtain rfl := Option.some.inj H
    go_enter Try.func8, Try.ntmps8
    go_wp2_with (first | ((with_reducible refine gate_callee (f := 10) rfl ?_); refine goesL_ (some 17) rfl rfl Try.func10 (by kernel_rfl) rfl #[] rfl (by (try simp only [List.map_toArray, List.map_cons, List.map_nil]); first | done | rfl | (simp only [List.length_drop, List.length_take]; rfl)) ?_; (with_reducible refine (copyholdlaw01_shown.calls  t194 _ A4.out).mono ?_); rintro e w6 ⟨rfl, hb⟩; refine ⟨_, rfl, ?_⟩; have n0_ := Aside0.mk (below_step (by repeat (first | (with_reducible first | exact HB.out | apply below_alloc | apply pw_below_drewN | apply below_drew1) | exact HB.out)) hb); clear HB; have HB := n0_; clear n0_; (try clear hb); (try clear hb2); (try clear hk); (try clear hi)))
    go_ret
    exact ⟨by first | rfl | (simp [errW_none, errW_some] <;> rfl) | (simp [*, errW_none, errW_some] <;> rfl), by repeat (first | (with_reducible first | exact HB.out | apply below_alloc | apply pw_below_drewN | apply below_drew1) | exact HB.out)⟩
  · rw [if_neg c5] at H
    have c5b0 : decide (5000 < (a0.size : Int)) = false := decide_eq_false c5
    have c5b1 : decide (5000 < a0.size) = false := decide_eq_false (by omega)
    clear c5
    replace H := Option.bind_eq_some_iff.mp H
    obtain ⟨⟨t195, t196, t197⟩, A70, H⟩ := H
    replace H : (if t197 = 0 then ((octet_Num.f t195).bind fun t198 => (if t198.size + t196.size ≤ 9223372036854775807 then (copyholdlaw01_OctetOnly.j0 k a0 a1 a2 t194 ((t198 ++ t196).toList != a0.toList)) else (none))) else (copyholdlaw01_OctetOnly.j0 k a0 a1 a2 t194 false)) = some r := H
    have A7 := Aside0.mk A70
    clear A70
    have HC8 := Aside0.mk H
    clear H
    go_enter Try.func8, Try.ntmps8
    go_upto_region 5 with (first | ((with_reducible refine gate_callee (f := 10) rfl ?_); refine goesL_ (some 17) rfl rfl Try.func10 (by kernel_rfl) rfl #[] rfl (by (try simp only [List.map_toArray, List.map_cons, List.map_nil]); first | done | rfl | (simp only [List.length_drop, List.length_take]; rfl)) ?_; (with_reducible refine (copyholdlaw01_shown.calls  t194 _ A4.out).mono ?_); rintro e w9 ⟨rfl, hb⟩; refine ⟨_, rfl, ?_⟩; have n0_ := Aside0.mk (below_step (by repeat (first | (with_reducible first | exact HB.out | apply below_alloc | apply pw_below_drewN | apply below_drew1) | exact HB.out)) hb); clear HB; have HB := n0_; clear n0_; (try clear hb); (try clear hb2); (try clear hk); (try clear hi)) | ((with_reducible refine gate_callee (f := 23) rfl ?_); refine goesL_ (some 24) rfl rfl Try.func23 (by kernel_rfl) rfl #[.string a0] rfl (by (try simp only [List.map_toArray, List.map_cons, List.map_nil]); first | done | rfl | (simp only [List.length_drop, List.length_take]; rfl)) ?_; (with_reducible refine (octet_TakeNum.calls a0 t195 t196 t197 _ A7.out).mono ?_); rintro e w' ⟨rfl, ⟨nd, rfl⟩⟩; refine ⟨_, rfl, ?_⟩))
    (try simp only [Act.put, List.setIfInBounds_toArray, List.set_cons_zero, List.set_cons_succ])
    go_cut [37] (fun v37 wc => ∃ (kq : Nat) (x37_7 : Bool), v37 = .bool x37_7 ∧ Aside0 (copyholdlaw01_OctetOnly.j0 kq a0 a1 a2 t194 x37_7 = some r) ∧ Aside0 (kq ≤ k) ∧ Aside0 (Below w.heap.size w wc))
    case first =>
      have H := HC8.out
      clear HC8
      by_cases c10 : t197 = 0
      · rw [if_pos c10] at H
        have c10b0 : (t197 == 0) = true := beq_iff_eq.mpr c10
        have c10b1 : (t197 != 0) = false := bne_eq_false_iff_eq.mpr c10
        clear c10
        (first | rw [c10b0] | (simp only [i64_w, i32_w]; rw [c10b0]) | skip)
        replace H := Option.bind_eq_some_iff.mp H
        obtain ⟨t198, A110, H⟩ := H
        replace H : (if t198.size + t196.size ≤ 9223372036854775807 then (copyholdlaw01_OctetOnly.j0 k a0 a1 a2 t194 ((t198 ++ t196).toList != a0.toList)) else (none)) = some r := H
        have A11 := Aside0.mk A110
        clear A110
        by_cases c12 : t198.size + t196.size ≤ 9223372036854775807
        · rw [if_pos c12] at H
          have c12b0 := eq_true c12
          have c12b1 : decide (t198.size + t196.size ≤ 9223372036854775807) = true := decide_eq_true c12
          try have c12b2 : (9223372036854775807 < t198.size + t196.size) = False := eq_false (Nat.not_lt.2 c12)
          have H' := Aside0.mk H
          clear H
          go_wp2_with (first | (go_at_call 16; (with_reducible refine (octet_Num.calls t195 t198 _ A11.out).mono ?_); rintro e w13 ⟨rfl, hb⟩; have n0_ := Aside0.mk (below_step (by repeat (first | (with_reducible first | exact HB.out | apply below_alloc | apply pw_below_drewN | apply below_drew1) | exact HB.out)) hb); clear HB; have HB := n0_; clear n0_; (try clear hb); (try clear hb2); (try clear hk); (try clear hi)))
          go_meet
          case rel => exact ⟨_, (((t198 ++ t196).toList != a0.toList)), (by first | rfl | (simp; done) | (simp [*]; done)), H', ⟨by first | omega | exact Nat.le_refl _⟩, ⟨by repeat (first | (with_reducible first | exact HB.out | apply below_alloc | apply pw_below_drewN | apply below_drew1) | exact HB.out)⟩⟩
        · rw [if_neg c12] at H
          exact absurd H (by simp)
      · rw [if_neg c10] at H
        have c10b0 : (t197 == 0) = false := beq_eq_false_iff_ne.mpr c10
        have c10b1 : (t197 != 0) = true := bne_iff_ne.mpr c10
        (first | rw [c10b0] | (simp only [i64_w, i32_w]; rw [c10b0]) | skip)
        have H' := Aside0.mk H
        clear H
        go_wp2
        go_meet
        case rel => exact ⟨_, (false), (by first | rfl | (simp; done) | (simp [*]; done)), H', ⟨by first | omega | exact Nat.le_refl _⟩, ⟨by repeat (first | (with_reducible first | exact HB.out | apply below_alloc | apply pw_below_drewN | apply below_drew1) | exact HB.out)⟩⟩
    case rest =>
      clear HC8
      try clear c1
      try clear c2
      try clear p2
      try clear c5
      try clear c5b0
      try clear c5b1
      try clear c8
      try clear c10
      try clear c10b0
      try clear c10b1
      try clear c12
      try clear c12b0
      try clear c12b1
      try clear c12b2
      obtain ⟨kq, x37_7, rfl, HA, HJ7, HB⟩ := hcut
      cases kq with
      | zero => exact absurd HA.out (by simp [copyholdlaw01_OctetOnly.j0])
      | succ kj7 =>
        have H := HA.out
        clear HA
        simp only [copyholdlaw01_OctetOnly.j0] at H
        by_cases c14 : x37_7 = true
        · subst c14
          have H1 : (some false) = some r := by rw [if_pos rfl] at H; exact H
          clear H
          have H := H1
          clear H1
          obtain rfl := Option.some.inj H
          go_wp2
          go_ret
          exact ⟨by first | rfl | (simp [errW_none, errW_some] <;> rfl) | (simp [*, errW_none, errW_some] <;> rfl), by repeat (first | (with_reducible first | exact HB.out | apply below_alloc | apply pw_below_drewN | apply below_drew1) | exact HB.out)⟩
        · replace c14 := Bool.eq_false_iff.mpr c14
          subst c14
          have H1 : ((octet_TakeList.f a0 a1 a2).bind fun bt199 => (if bt199.2.2 = 0 then ((octet_List.f bt199.1).bind fun t204 => (if t204.size + bt199.2.1.size ≤ 9223372036854775807 then (copyholdlaw01_OctetOnly.j1 kj7 a0 a1 t194 ((t204 ++ bt199.2.1).toList != a0.toList)) else (none))) else (copyholdlaw01_OctetOnly.j1 kj7 a0 a1 t194 false))) = some r := by rw [if_neg (show ¬ (false = true) by decide)] at H; exact H
          clear H
          have H := H1
          clear H1
          replace H := Option.bind_eq_some_iff.mp H
          obtain ⟨⟨t199, t200, t201⟩, A150, H⟩ := H
          replace H : (if t201 = 0 then ((octet_List.f t199).bind fun t204 => (if t204.size + t200.size ≤ 9223372036854775807 then (copyholdlaw01_OctetOnly.j1 kj7 a0 a1 t194 ((t204 ++ t200).toList != a0.toList)) else (none))) else (copyholdlaw01_OctetOnly.j1 kj7 a0 a1 t194 false)) = some r := H
          have A15 := Aside0.mk A150
          clear A150
          have HC16 := Aside0.mk H
          clear H
          go_upto_region 8 with (first | ((with_reducible refine gate_callee (f := 26) rfl ?_); refine goesL_ (some 42) rfl rfl Try.func26 (by kernel_rfl) rfl #[.string a0, .int .i64 a1, .int .i64 a2] rfl (by (try simp only [List.map_toArray, List.map_cons, List.map_nil]); first | done | rfl | (simp only [List.length_drop, List.length_take]; rfl)) ?_; (with_reducible refine (octet_TakeList.calls a0 a1 a2 t199 t200 t201 _ A15.out).mono ?_); rintro e w17 ⟨v202, rfl, ho0, hb⟩; refine ⟨_, rfl, ?_⟩; have n0_ := Aside0.mk (Kd.R_lower ho0 (below_size (by repeat (first | (with_reducible first | exact HB.out | apply below_alloc | apply pw_below_drewN | apply below_drew1) | exact HB.out)))); have n1_ := Aside0.mk (below_step (by repeat (first | (with_reducible first | exact HB.out | apply below_alloc | apply pw_below_drewN | apply below_drew1) | exact HB.out)) hb); clear HB; have HO203 := n0_; have HB := n1_; clear n0_ n1_; (try clear hb); (try clear hb2); (try clear hk); (try clear hi); (try clear ho0)))
          (try simp only [Act.put, List.setIfInBounds_toArray, List.set_cons_zero, List.set_cons_succ])
          go_cut [55] (fun v55 wc => ∃ (kq : Nat) (x55_15 : Bool), v55 = .bool x55_15 ∧ Aside0 (copyholdlaw01_OctetOnly.j1 kq a0 a1 t194 x55_15 = some r) ∧ Aside0 (kq ≤ kj7) ∧ Aside0 (Below w.heap.size w wc))
          case first =>
            have H := HC16.out
            clear HC16
            by_cases c18 : t201 = 0
            · rw [if_pos c18] at H
              have c18b0 : (t201 == 0) = true := beq_iff_eq.mpr c18
              have c18b1 : (t201 != 0) = false := bne_eq_false_iff_eq.mpr c18
              clear c18
              (first | rw [c18b0] | (simp only [i64_w, i32_w]; rw [c18b0]) | skip)
              replace H := Option.bind_eq_some_iff.mp H
              obtain ⟨t204, A190, H⟩ := H
              replace H : (if t204.size + t200.size ≤ 9223372036854775807 then (copyholdlaw01_OctetOnly.j1 kj7 a0 a1 t194 ((t204 ++ t200).toList != a0.toList)) else (none)) = some r := H
              have A19 := Aside0.mk A190
              clear A190
              by_cases c20 : t204.size + t200.size ≤ 9223372036854775807
              · rw [if_pos c20] at H
                have c20b0 := eq_true c20
                have c20b1 : decide (t204.size + t200.size ≤ 9223372036854775807) = true := decide_eq_true c20
                try have c20b2 : (9223372036854775807 < t204.size + t200.size) = False := eq_false (Nat.not_lt.2 c20)
                have H' := Aside0.mk H
                clear H
                obtain ⟨Ao21, co21, eo21⟩ := Kd.R_slice HO203.out
                subst eo21
                go_wp2_with (first | (go_at_call 18; (with_reducible refine (octet_List.calls _ _ t199 t204 _ ?side1 ?side2 A19.out).mono ?_); (case side1 => repeat (first | exact (Kd.R_reads' HO203.out).2.2 | (with_reducible refine Kd.C_alloc ?_ _) | (with_reducible refine Kd.C_drewN ?_ _) | (with_reducible refine Kd.C_drew ?_))); (case side2 => exact (Kd.R_reads' HO203.out).2.1); rintro e w22 ⟨rfl, hb⟩; have n0_ := Aside0.mk (Kd.R_below (by (with_reducible repeat (first | apply Kd.R_alloc | apply Kd.R_drewN | apply Kd.R_drew)); exact HO203.out) hb); have n1_ := Aside0.mk (below_step (by repeat (first | (with_reducible first | exact HB.out | apply below_alloc | apply pw_below_drewN | apply below_drew1) | exact HB.out)) hb); clear HO203; clear HB; have HO203 := n0_; have HB := n1_; clear n0_ n1_; (try clear hb); (try clear hb2); (try clear hk); (try clear hi)))
                go_meet
                case rel => exact ⟨_, (((t204 ++ t200).toList != a0.toList)), (by first | rfl | (simp; done) | (simp [*]; done)), H', ⟨by have := HJ7.out; first | omega | exact Nat.le_refl _⟩, ⟨by repeat (first | (with_reducible first | exact HB.out | apply below_alloc | apply pw_below_drewN | apply below_drew1) | exact HB.out)⟩⟩
              · rw [if_neg c20] at H
                exact absurd H (by simp)
            · rw [if_neg c18] at H
              have c18b0 : (t201 == 0) = false := beq_eq_false_iff_ne.mpr c18
              have c18b1 : (t201 != 0) = true := bne_iff_ne.mpr c18
              (first | rw [c18b0] | (simp only [i64_w, i32_w]; rw [c18b0]) | skip)
              have H' := Aside0.mk H
              clear H
              go_wp2
              go_meet
              case rel => exact ⟨_, (false), (by first | rfl | (simp; done) | (simp [*]; done)), H', ⟨by have := HJ7.out; first | omega | exact Nat.le_refl _⟩, ⟨by repeat (first | (with_reducible first | exact HB.out | apply below_alloc | apply pw_below_drewN | apply below_drew1) | exact HB.out)⟩⟩
          case rest =>
            clear HC16
            try clear c1
            try clear c2
            try clear p2
            try clear c5
            try clear c5b0
            try clear c5b1
            try clear c8
            try clear c10
            try clear c10b0
            try clear c10b1
            try clear c12
            try clear c12b0
            try clear c12b1
            try clear c12b2
            try clear c14
            try clear c18
            try clear c18b0
            try clear c18b1
            try clear c20
            try clear c20b0
            try clear c20b1
            try clear c20b2
            try clear p2
            obtain ⟨kq, x55_15, rfl, HA, HJ15, HB⟩ := hcut
            cases kq with
            | zero => exact absurd HA.out (by simp [copyholdlaw01_OctetOnly.j1])
            | succ kj15 =>
              have H := HA.out
              clear HA
              simp only [copyholdlaw01_OctetOnly.j1] at H
              by_cases c23 : x55_15 = true
              · subst c23
                have H1 : (some false) = some r := by rw [if_pos rfl] at H; exact H
                clear H
                have H := H1
                clear H1
                obtain rfl := Option.some.inj H
                go_wp2
                go_ret
                exact ⟨by first | rfl | (simp [errW_none, errW_some] <;> rfl) | (simp [*, errW_none, errW_some] <;> rfl), by repeat (first | (with_reducible first | exact HB.out | apply below_alloc | apply pw_below_drewN | apply below_drew1) | exact HB.out)⟩
              · replace c23 := Bool.eq_false_iff.mpr c23
                subst c23
                have H1 : ((octet_TakeText.f a0 a1).bind fun bt205 => (if t194 = true then (if bt205.2.2 = 0 then ((octet_Text.f bt205.1).bind fun t208 => (if t208.size + bt205.2.1.size ≤ 9223372036854775807 then (if (t208 ++ bt205.2.1).toList = a0.toList then (some (decide ((bt205.1.size : Int) ≤ a1))) else (some false)) else (none))) else (some true)) else (some false))) = some r := by rw [if_neg (show ¬ (false = true) by decide)] at H; exact H
                clear H
                have H := H1
                clear H1
                replace H := Option.bind_eq_some_iff.mp H
                obtain ⟨⟨t205, t206, t207⟩, A240, H⟩ := H
                replace H : (if t194 = true then (if t207 = 0 then ((octet_Text.f t205).bind fun t208 => (if t208.size + t206.size ≤ 9223372036854775807 then (if (t208 ++ t206).toList = a0.toList then (some (decide ((t205.size : Int) ≤ a1))) else (some false)) else (none))) else (some true)) else (some false)) = some r := H
                have A24 := Aside0.mk A240
                clear A240
                by_cases c25 : t194 = true
                · subst c25
                  have H1 : (if t207 = 0 then ((octet_Text.f t205).bind fun t208 => (if t208.size + t206.size ≤ 9223372036854775807 then (if (t208 ++ t206).toList = a0.toList then (some (decide ((t205.size : Int) ≤ a1))) else (some false)) else (none))) else (some true)) = some r := by rw [if_pos rfl] at H; exact H
                  clear H
                  have H := H1
                  clear H1
                  by_cases c26 : t207 = 0
                  · rw [if_pos c26] at H
                    have c26b0 : (t207 == 0) = true := beq_iff_eq.mpr c26
                    have c26b1 : (t207 != 0) = false := bne_eq_false_iff_eq.mpr c26
                    clear c26
                    replace H := Option.bind_eq_some_iff.mp H
                    obtain ⟨t208, A270, H⟩ := H
                    replace H : (if t208.size + t206.size ≤ 9223372036854775807 then (if (t208 ++ t206).toList = a0.toList then (some (decide ((t205.size : Int) ≤ a1))) else (some false)) else (none)) = some r := H
                    have A27 := Aside0.mk A270
                    clear A270
                    by_cases c28 : t208.size + t206.size ≤ 9223372036854775807
                    · rw [if_pos c28] at H
                      have c28b0 := eq_true c28
                      have c28b1 : decide (t208.size + t206.size ≤ 9223372036854775807) = true := decide_eq_true c28
                      try have c28b2 : (9223372036854775807 < t208.size + t206.size) = False := eq_false (Nat.not_lt.2 c28)
                      by_cases c29 : (t208 ++ t206).toList = a0.toList
                      · rw [if_pos c29] at H
                        have c29b0 : ((t208 ++ t206).toList == a0.toList) = true := beq_iff_eq.mpr c29
                        have c29b1 : ((t208 ++ t206).toList != a0.toList) = false := bne_eq_false_iff_eq.mpr c29
                        clear c29
                        obtain rfl := Option.some.inj H
                        go_wp2_with (first | ((with_reducible refine gate_callee (f := 22) rfl ?_); refine goesL_ (some 59) rfl rfl Try.func22 (by kernel_rfl) rfl #[.string a0, .int .i64 a1] rfl (by (try simp only [List.map_toArray, List.map_cons, List.map_nil]); first | done | rfl | (simp only [List.length_drop, List.length_take]; rfl)) ?_; (with_reducible refine (octet_TakeText.calls a0 a1 t205 t206 t207 _ A24.out).mono ?_); rintro e w' ⟨rfl, ⟨nd, rfl⟩⟩; refine ⟨_, rfl, ?_⟩) | (go_at_call 14; (with_reducible refine (octet_Text.calls t205 t208 _ A27.out).mono ?_); rintro e w30 ⟨rfl, hb⟩; have n0_ := Aside0.mk (below_step (by repeat (first | (with_reducible first | exact HB.out | apply below_alloc | apply pw_below_drewN | apply below_drew1) | exact HB.out)) hb); clear HB; have HB := n0_; clear n0_; (try clear hb); (try clear hb2); (try clear hk); (try clear hi)))
                        go_ret
                        exact ⟨by first | rfl | (simp [errW_none, errW_some] <;> rfl) | (simp [*, errW_none, errW_some] <;> rfl), by repeat (first | (with_reducible first | exact HB.out | apply below_alloc | apply pw_below_drewN | apply below_drew1) | exact HB.out)⟩
                      · rw [if_neg c29] at H
                        have c29b0 : ((t208 ++ t206).toList == a0.toList) = false := beq_eq_false_iff_ne.mpr c29
                        have c29b1 : ((t208 ++ t206).toList != a0.toList) = true := bne_iff_ne.mpr c29
                        obtain rfl := Option.some.inj H
                        go_wp2_with (first | ((with_reducible refine gate_callee (f := 22) rfl ?_); refine goesL_ (some 59) rfl rfl Try.func22 (by kernel_rfl) rfl #[.string a0, .int .i64 a1] rfl (by (try simp only [List.map_toArray, List.map_cons, List.map_nil]); first | done | rfl | (simp only [List.length_drop, List.length_take]; rfl)) ?_; (with_reducible refine (octet_TakeText.calls a0 a1 t205 t206 t207 _ A24.out).mono ?_); rintro e w' ⟨rfl, ⟨nd, rfl⟩⟩; refine ⟨_, rfl, ?_⟩) | (go_at_call 14; (with_reducible refine (octet_Text.calls t205 t208 _ A27.out).mono ?_); rintro e w31 ⟨rfl, hb⟩; have n0_ := Aside0.mk (below_step (by repeat (first | (with_reducible first | exact HB.out | apply below_alloc | apply pw_below_drewN | apply below_drew1) | exact HB.out)) hb); clear HB; have HB := n0_; clear n0_; (try clear hb); (try clear hb2); (try clear hk); (try clear hi)))
                        go_ret
                        exact ⟨by first | rfl | (simp [errW_none, errW_some] <;> rfl) | (simp [*, errW_none, errW_some] <;> rfl), by repeat (first | (with_reducible first | exact HB.out | apply below_alloc | apply pw_below_drewN | apply below_drew1) | exact HB.out)⟩
                    · rw [if_neg c28] at H
                      exact absurd H (by simp)
                  · rw [if_neg c26] at H
                    have c26b0 : (t207 == 0) = false := beq_eq_false_iff_ne.mpr c26
                    have c26b1 : (t207 != 0) = true := bne_iff_ne.mpr c26
                    obtain rfl := Option.some.inj H
                    go_wp2_with (first | ((with_reducible refine gate_callee (f := 22) rfl ?_); refine goesL_ (some 59) rfl rfl Try.func22 (by kernel_rfl) rfl #[.string a0, .int .i64 a1] rfl (by (try simp only [List.map_toArray, List.map_cons, List.map_nil]); first | done | rfl | (simp only [List.length_drop, List.length_take]; rfl)) ?_; (with_reducible refine (octet_TakeText.calls a0 a1 t205 t206 t207 _ A24.out).mono ?_); rintro e w' ⟨rfl, ⟨nd, rfl⟩⟩; refine ⟨_, rfl, ?_⟩))
                    go_ret
                    exact ⟨by first | rfl | (simp [errW_none, errW_some] <;> rfl) | (simp [*, errW_none, errW_some] <;> rfl), by repeat (first | (with_reducible first | exact HB.out | apply below_alloc | apply pw_below_drewN | apply below_drew1) | exact HB.out)⟩
                · replace c25 := Bool.eq_false_iff.mpr c25
                  subst c25
                  have H1 : (some false) = some r := by rw [if_neg (show ¬ (false = true) by decide)] at H; exact H
                  clear H
                  have H := H1
                  clear H1
                  obtain rfl := Option.some.inj H
                  go_wp2_with (first | ((with_reducible refine gate_callee (f := 22) rfl ?_); refine goesL_ (some 59) rfl rfl Try.func22 (by kernel_rfl) rfl #[.string a0, .int .i64 a1] rfl (by (try simp only [List.map_toArray, List.map_cons, List.map_nil]); first | done | rfl | (simp only [List.length_drop, List.length_take]; rfl)) ?_; (with_reducible refine (octet_TakeText.calls a0 a1 t205 t206 t207 _ A24.out).mono ?_); rintro e w' ⟨rfl, ⟨nd, rfl⟩⟩; refine ⟨_, rfl, ?_⟩))
                  go_ret
                  exact ⟨by first | rfl | (simp [errW_none, errW_some] <;> rfl) | (simp [*, errW_none, errW_some] <;> rfl), by repeat (first | (with_reducible first | exact HB.out | apply below_alloc | apply pw_below_drewN | apply below_drew1) | exact HB.out)⟩

/-- THE ONE PURE STATEMENT of copyholdlaw01_OctetOnly: yours. -/
def copyholdlaw01_OctetOnly.Pure : Prop := ∀ (a0 : ByteArray) (a1 : Int) (a2 : Int), a0.size ≤ 140737488351232 → (Lit.int .i64 a1).wf = true → (Lit.int .i64 a2).wf = true → ∃ k, copyholdlaw01_OctetOnly.f k a0 a1 a2 = some true
theorem copyholdlaw01_OctetOnly.walk (P : copyholdlaw01_OctetOnly.Pure) (a0 : ByteArray) (a1 : Int) (a2 : Int) (w : World) (w0 : a0.size ≤ 140737488351232) (w1 : (Lit.int .i64 a1).wf = true) (w2 : (Lit.int .i64 a2).wf = true) :
    Calls Try.prog 8 #[.string a0, .int .i64 a1, .int .i64 a2] w fun e w' => e = .returned (.bool true) ∧ Below w.heap.size w w' := by
  obtain ⟨k, h⟩ := P a0 a1 a2 w0 w1 w2
  refine (copyholdlaw01_OctetOnly.calls k a0 a1 a2 true w h).mono ?_
  rintro e w' ⟨rfl, hd⟩
  exact ⟨rfl, hd⟩

end Go.Proofs.Ytoenhajcjebmeaa.Q
