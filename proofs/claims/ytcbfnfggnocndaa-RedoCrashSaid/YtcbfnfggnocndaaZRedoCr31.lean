import Derived.Test.YtcbfnfggnocndaaZRedoCr28
import Derived.Test.YtcbfnfggnocndaaZRedoCr29
import Derived.Test.YtcbfnfggnocndaaZRedoCr30
import Derived.Test.YtcbfnfggnocndaaZRedoCrA
set_option linter.unusedVariables false
set_option linter.unusedSimpArgs false
namespace Go.Proofs.Ytcbfnfggnocndaa.X
open Go.RowKit Go.Proofs.YtcbfnfggnocndaaW.PrintWords Go.Proofs.YtcbfnfggnocndaaW.PrintLast Go.Proofs.YtcbfnfggnocndaaW.PrintMore
open Go.Proofs.Ytcbfnfggnocndaa.Q
attribute [local go_sem] max2_int min2_int max_two min_two max_three min_three max_four min_four   -- for this text's walks alone
attribute [local go_sem high] Go.Proofs.Ytcbfnfggnocndaa.px_xor_u8 Go.Proofs.Ytcbfnfggnocndaa.px_xor_u16 Go.Proofs.Ytcbfnfggnocndaa.px_xor_u32 Go.Proofs.Ytcbfnfggnocndaa.px_xor_u64
def copyholdref01_TakeText.j0 : Nat → Int → ByteArray → Bool → Option (ByteArray × ByteArray × Int)
 | 0, _, _, _ => none
 | k + 1, x7, x8, x26 => if x26 = true then (some ((⟨#[]⟩ : ByteArray), (⟨#[]⟩ : ByteArray), 5)) else (if x7 > (IntKind.u64.wrap ((x8.size : Int))) then (some ((⟨#[]⟩ : ByteArray), (⟨#[]⟩ : ByteArray), 2)) else (if 0 ≤ x7 then (if x7 ≤ (x8.size : Int) then (some (x8.extract 0 (x7 : Int).toNat, x8.extract (x7 : Int).toNat x8.size, 0)) else (none)) else (none)))
def copyholdref01_TakeText.f (k : Nat) (a0 : ByteArray) (a1 : Int) : Option (ByteArray × ByteArray × Int) := (copyholdref01_TakeNum.f k a0).bind fun bt132 => (if bt132.2.2 = 0 then (if a1 < 0 then (copyholdref01_TakeText.j0 k bt132.1 bt132.2.1 true) else (copyholdref01_TakeText.j0 k bt132.1 bt132.2.1 (decide (bt132.1 > (IntKind.u64.wrap (a1)))))) else (some ((⟨#[]⟩ : ByteArray), (⟨#[]⟩ : ByteArray), bt132.2.2)))
theorem copyholdref01_TakeText.mono_l : ∀ k, (∀ y0 y1 y2, LeO (copyholdref01_TakeText.j0 k y0 y1 y2) (copyholdref01_TakeText.j0 (k + 1) y0 y1 y2))
 | 0 => fun _ _ _ r h => by simp [copyholdref01_TakeText.j0] at h
 | k + 1 => by
  have ih0 := copyholdref01_TakeText.mono_l k
  ·intro y0 y1 y2
   unfold copyholdref01_TakeText.j0
   repeat' first
   | (with_reducible exact ih0 _ _ _)
   | (with_reducible exact copyholdref01_TakeNum.mono _ _)
   | (with_reducible exact LeO.refl _)
   | (with_reducible exact LeO.none _)
   | (with_reducible refine LeO.ite ?_ ?_)
   | (with_reducible refine LeO.bind ?_ (fun _ => ?_))
   | exact ih0 _ _ _
   | exact copyholdref01_TakeNum.mono _ _
   | exact LeO.none _
   | refine LeO.ite ?_ ?_
   | refine LeO.bind ?_ (fun _ => ?_)
theorem copyholdref01_TakeText.mono : ∀ a0 a1 k, LeO (copyholdref01_TakeText.f k a0 a1) (copyholdref01_TakeText.f (k + 1) a0 a1) := by
 intro a0 a1 k
 have ih0 := copyholdref01_TakeText.mono_l k
 unfold copyholdref01_TakeText.f
 repeat' first
   | (with_reducible exact ih0 _ _ _)
   | (with_reducible exact copyholdref01_TakeNum.mono _ _)
   | (with_reducible exact LeO.refl _)
   | (with_reducible exact LeO.none _)
   | (with_reducible refine LeO.ite ?_ ?_)
   | (with_reducible refine LeO.bind ?_ (fun _ => ?_))
   | exact ih0 _ _ _
   | exact copyholdref01_TakeNum.mono _ _
   | exact LeO.none _
   | refine LeO.ite ?_ ?_
   | refine LeO.bind ?_ (fun _ => ?_)
set_option maxHeartbeats 8000000 in
set_option maxRecDepth 100000 in
theorem copyholdref01_TakeText.calls (k : Nat) (a0 : ByteArray) (a1 : Int) (r1 : ByteArray) (r2 : ByteArray) (r3 : Int) (w : World) (h : copyholdref01_TakeText.f k a0 a1 = some (r1, r2, r3)) :
  Calls Try.prog 60 #[.string a0, .int .i64 a1] w fun e w' => e = .returned (.tuple #[.string r1, .string r2, .int .i64 r3]) ∧ Below w.heap.size w w' := by
 have HB := zqj (Below.refl w.heap.size w)
 have H : ((copyholdref01_TakeNum.f k a0).bind fun bt132 => (if bt132.2.2 = 0 then (if a1 < 0 then (copyholdref01_TakeText.j0 k bt132.1 bt132.2.1 true) else (copyholdref01_TakeText.j0 k bt132.1 bt132.2.1 (decide (bt132.1 > (IntKind.u64.wrap (a1)))))) else (some ((⟨#[]⟩ : ByteArray), (⟨#[]⟩ : ByteArray), bt132.2.2)))) = some (r1, r2, r3) := h
 clear h
 replace H := zqn H
 obtain ⟨⟨t132, t133, t134⟩, A30, H⟩ := H
 replace H : (if t134 = 0 then (if a1 < 0 then (copyholdref01_TakeText.j0 k t132 t133 true) else (copyholdref01_TakeText.j0 k t132 t133 (decide (t132 > (IntKind.u64.wrap (a1)))))) else (some ((⟨#[]⟩ : ByteArray), (⟨#[]⟩ : ByteArray), t134))) = some (r1, r2, r3) := H
 have A3 := zqj A30
 clear A30
 by_cases c4 : t134 = 0
 ·rw [if_pos c4] at H
  have c4b0 : (t134 == 0) = true := beq_iff_eq.mpr c4
  have c4b1 : (t134 != 0) = false := bne_eq_false_iff_eq.mpr c4
  clear c4
  have HC5 := zqj H
  clear H
  go_enter Try.func60, Try.ntmps60
  go_upto_region 4 with (first | (go_at_call 70; (with_reducible refine (copyholdref01_TakeNum.calls k a0 t132 t133 t134 _ A3.out).mono ?_); rintro e w6 ⟨rfl, hb⟩; have n0_ := zqj (below_step (by repeat (first | (with_reducible first | exact HB.out | apply zqg | apply zqe | apply zqf) | exact HB.out)) hb); clear HB; have HB := n0_; clear n0_; (try clear hb); (try clear hb2); (try clear hk); (try clear hi)))
  repeat (go_quiet (first | (go_at_call 70; (with_reducible refine (copyholdref01_TakeNum.calls k a0 t132 t133 t134 _ A3.out).mono ?_); rintro e w6 ⟨rfl, hb⟩; have n0_ := zqj (below_step (by repeat (first | (with_reducible first | exact HB.out | apply zqg | apply zqe | apply zqf) | exact HB.out)) hb); clear HB; have HB := n0_; clear n0_; (try clear hb); (try clear hb2); (try clear hk); (try clear hi))); go_upto_region 4 with (first | (go_at_call 70; (with_reducible refine (copyholdref01_TakeNum.calls k a0 t132 t133 t134 _ A3.out).mono ?_); rintro e w6 ⟨rfl, hb⟩; have n0_ := zqj (below_step (by repeat (first | (with_reducible first | exact HB.out | apply zqg | apply zqe | apply zqf) | exact HB.out)) hb); clear HB; have HB := n0_; clear n0_; (try clear hb); (try clear hb2); (try clear hk); (try clear hi))))
  (try simp only [Act.put, zqk, zql, zqm])
  go_cut [26] (fun v26 wc => ∃ (kq : Nat) (x26_4 : Bool), v26 = .bool x26_4 ∧ Aside0 (copyholdref01_TakeText.j0 kq t132 t133 x26_4 = some (r1, r2, r3)) ∧ Aside0 (kq ≤ k) ∧ Aside0 (Below w.heap.size w wc))
  case first =>
   (have H := HC5.out; clear HC5)
   by_cases c7 : a1 < 0
   ·rw [if_pos c7] at H
    have c7b0 : decide (a1 < 0) = true := decide_eq_true c7
    clear c7
    (first | rw [c7b0] | (simp only [i64_w, i32_w]; rw [c7b0]) | skip)
    have H' := zqj H
    clear H
    go_wp2
    repeat (go_quiet (fail); try go_wp2)
    go_meet
    case rel => exact ⟨_, (true), (by first | rfl | (simp; done) | (simp [*]; done)), H', ⟨by first | omega | exact Nat.le_refl _⟩, ⟨by repeat (first | (with_reducible first | exact HB.out | apply zqg | apply zqe | apply zqf) | exact HB.out)⟩⟩
   ·rw [if_neg c7] at H
    have c7b0 : decide (a1 < 0) = false := decide_eq_false c7
    clear c7
    (first | rw [c7b0] | (simp only [i64_w, i32_w]; rw [c7b0]) | skip)
    have H' := zqj H
    clear H
    go_wp2
    repeat (go_quiet (fail); try go_wp2)
    go_meet
    case rel => exact ⟨_, (decide (t132 > (IntKind.u64.wrap (a1)))), (by first | rfl | (simp; done) | (simp [*]; done)), H', ⟨by first | omega | exact Nat.le_refl _⟩, ⟨by repeat (first | (with_reducible first | exact HB.out | apply zqg | apply zqe | apply zqf) | exact HB.out)⟩⟩
  case rest =>
   (clear HC5; (try clear p2); (try clear c4); (try clear c4b0); (try clear c4b1); (try clear c6); (try clear c7); (try clear c7b0))
   obtain ⟨kq, x26_4, rfl, HA, HJ4, HB⟩ := hcut
   cases kq with
   | zero => exact absurd HA.out (by simp [copyholdref01_TakeText.j0])
   | succ kj4 =>
    (have H := HA.out; clear HA)
    simp only [copyholdref01_TakeText.j0] at H
    by_cases c8 : x26_4 = true
    ·subst c8
     have H1 : (some ((⟨#[]⟩ : ByteArray), (⟨#[]⟩ : ByteArray), 5)) = some (r1, r2, r3) := by rw [if_pos rfl] at H; exact H
     clear H
     have H := H1
     clear H1
     simp only [Option.some.injEq, Prod.mk.injEq] at H
     obtain ⟨rfl, rfl, rfl⟩ := H
     go_wp2
     repeat (go_quiet (fail); try go_wp2)
     go_ret3
     exact ⟨by first | rfl | (simp [errW_none, errW_some] <;> rfl) | (simp [*, errW_none, errW_some] <;> rfl), by repeat (first | (with_reducible first | exact HB.out | apply zqg | apply zqe | apply zqf) | exact HB.out)⟩
    ·replace c8 := Bool.eq_false_iff.mpr c8
     subst c8
     have H1 : (if t132 > (IntKind.u64.wrap ((t133.size : Int))) then (some ((⟨#[]⟩ : ByteArray), (⟨#[]⟩ : ByteArray), 2)) else (if 0 ≤ t132 then (if t132 ≤ (t133.size : Int) then (some (t133.extract 0 (t132 : Int).toNat, t133.extract (t132 : Int).toNat t133.size, 0)) else (none)) else (none))) = some (r1, r2, r3) := by rw [if_neg (show ¬ (false = true) by decide)] at H; exact H
     clear H
     have H := H1
     clear H1
     by_cases c9 : t132 > (IntKind.u64.wrap ((t133.size : Int)))
     ·rw [if_pos c9] at H
      have c9b0 : decide ((IntKind.u64.wrap ((t133.size : Int))) < t132) = true := decide_eq_true c9
      clear c9
      simp only [Option.some.injEq, Prod.mk.injEq] at H
      obtain ⟨rfl, rfl, rfl⟩ := H
      go_wp2
      repeat (go_quiet (fail); try go_wp2)
      go_ret3
      exact ⟨by first | rfl | (simp [errW_none, errW_some] <;> rfl) | (simp [*, errW_none, errW_some] <;> rfl), by repeat (first | (with_reducible first | exact HB.out | apply zqg | apply zqe | apply zqf) | exact HB.out)⟩
     ·rw [if_neg c9] at H
      have c9b0 : decide ((IntKind.u64.wrap ((t133.size : Int))) < t132) = false := decide_eq_false c9
      clear c9
      by_cases c10 : 0 ≤ t132
      ·rw [if_pos c10] at H
       have c10b0 := eq_true c10
       have c10b1 : decide (0 ≤ t132) = true := decide_eq_true c10
       clear c10
       by_cases c11 : t132 ≤ (t133.size : Int)
       ·rw [if_pos c11] at H
        have c11b0 := eq_true c11
        have c11b1 : decide (t132 ≤ (t133.size : Int)) = true := decide_eq_true c11
        clear c11
        have c12b0 := eq_true (zqh (by first | (with_reducible assumption) | assumption) : 0 ≤ t132)
        have c13b0 := eq_true (zqh (by first | (with_reducible assumption) | assumption) : t132 ≤ (t133.size : Int))
        simp only [Option.some.injEq, Prod.mk.injEq] at H
        obtain ⟨rfl, rfl, rfl⟩ := H
        go_wp2
        repeat (go_quiet (fail); try go_wp2)
        go_ret3
        exact ⟨by first | rfl | (simp [errW_none, errW_some] <;> rfl) | (simp [*, errW_none, errW_some] <;> rfl), by repeat (first | (with_reducible first | exact HB.out | apply zqg | apply zqe | apply zqf) | exact HB.out)⟩
       ·rw [if_neg c11] at H
        exact absurd H (by simp)
      ·rw [if_neg c10] at H
       exact absurd H (by simp)
 ·rw [if_neg c4] at H
  have c4b0 : (t134 == 0) = false := beq_eq_false_iff_ne.mpr c4
  have c4b1 : (t134 != 0) = true := bne_iff_ne.mpr c4
  simp only [Option.some.injEq, Prod.mk.injEq] at H
  obtain ⟨rfl, rfl, rfl⟩ := H
  go_enter Try.func60, Try.ntmps60
  go_wp2_with (first | (go_at_call 70; (with_reducible refine (copyholdref01_TakeNum.calls k a0 t132 t133 t134 _ A3.out).mono ?_); rintro e w14 ⟨rfl, hb⟩; have n0_ := zqj (below_step (by repeat (first | (with_reducible first | exact HB.out | apply zqg | apply zqe | apply zqf) | exact HB.out)) hb); clear HB; have HB := n0_; clear n0_; (try clear hb); (try clear hb2); (try clear hk); (try clear hi)))
  repeat (go_quiet (first | (go_at_call 70; (with_reducible refine (copyholdref01_TakeNum.calls k a0 t132 t133 t134 _ A3.out).mono ?_); rintro e w14 ⟨rfl, hb⟩; have n0_ := zqj (below_step (by repeat (first | (with_reducible first | exact HB.out | apply zqg | apply zqe | apply zqf) | exact HB.out)) hb); clear HB; have HB := n0_; clear n0_; (try clear hb); (try clear hb2); (try clear hk); (try clear hi))); try go_wp2_with (first | (go_at_call 70; (with_reducible refine (copyholdref01_TakeNum.calls k a0 t132 t133 t134 _ A3.out).mono ?_); rintro e w14 ⟨rfl, hb⟩; have n0_ := zqj (below_step (by repeat (first | (with_reducible first | exact HB.out | apply zqg | apply zqe | apply zqf) | exact HB.out)) hb); clear HB; have HB := n0_; clear n0_; (try clear hb); (try clear hb2); (try clear hk); (try clear hi))))
  go_ret3
  exact ⟨by first | rfl | (simp [errW_none, errW_some] <;> rfl) | (simp [*, errW_none, errW_some] <;> rfl), by repeat (first | (with_reducible first | exact HB.out | apply zqg | apply zqe | apply zqf) | exact HB.out)⟩
mutual
def copyholdref05_stands.j1 : Nat → Int → Int → ByteArray → Option (ByteArray × Int)
 | 0, _, _, _ => none
 | k + 1, x3, x4, x13 => if (x13.size : Int) < 64 then (some ((⟨#[]⟩ : ByteArray), 0)) else (if 8 ≤ (x13.size : Int) then ((copyholdref01_TakeText.f k (x13.extract 8 x13.size) 4096).bind fun bt141 => (if bt141.2.2 = 0 then ((copyholdref05_Record.f k x4 bt141.1).bind fun t144 => ((copyholdref05_Need.f k bt141.1).bind fun t145 => (if t145 > x3 then (some ((⟨#[]⟩ : ByteArray), 0)) else (copyholdref05_stands.l1 k x13 bt141.1 t144 t145)))) else (some ((⟨#[]⟩ : ByteArray), 0)))) else (none))
def copyholdref05_stands.l1 : Nat → ByteArray → ByteArray → ByteArray → Int → Option (ByteArray × Int)
 | 0, _, _, _, _ => none
 | k + 1, x13, x15, x18, x19 => if (x18.size : Int) < (wrap64 (64 * x19)) then (if x18.size + 1 ≤ 9223372036854775807 then (copyholdref05_stands.l1 k x13 x15 (x18 ++ (⟨#[0]⟩ : ByteArray)) x19) else (none)) else (if 0 ≤ (wrap64 (64 * x19)) then (if (wrap64 (64 * x19)) ≤ (x13.size : Int) then (if (x13.extract 0 ((wrap64 (64 * x19)) : Int).toNat).toList = x18.toList then (some (x15, x19)) else (some ((⟨#[]⟩ : ByteArray), 0))) else (none)) else (none))
def copyholdref05_stands.l0 : Nat → Int → Int → Int → List ByteArray → ByteArray → Int → Int → Int → Option (ByteArray × Int)
 | 0, _, _, _, _, _, _, _, _ => none
 | k + 1, x2, x3, x4, x12, x13, x14, x137000, x137001 => if x14 < x3 then (if x14 < 66 then (if x137001 = 0 then (none) else (if 0 ≤ (wrap64 (x137000 + (Int.tmod (wrap64 (x2 + x14)) x137001))) then (if (wrap64 (x137000 + (Int.tmod (wrap64 (x2 + x14)) x137001))) < (x12.length : Int) then (if x13.size + (rdOf ByteArray.empty x12 (wrap64 (x137000 + (Int.tmod (wrap64 (x2 + x14)) x137001)))).size ≤ 9223372036854775807 then (copyholdref05_stands.l0 k x2 x3 x4 x12 (x13 ++ (rdOf ByteArray.empty x12 (wrap64 (x137000 + (Int.tmod (wrap64 (x2 + x14)) x137001))))) (wrap64 (x14 + 1)) x137000 x137001) else (none)) else (none)) else (none))) else (copyholdref05_stands.j1 k x3 x4 x13)) else (copyholdref05_stands.j1 k x3 x4 x13)
end
def copyholdref05_stands.f (k : Nat) (l0_0 : List ByteArray) (l0_1 : List (S88)) (a0_2 : Bool) (a1_0 : Int) (a1_1 : Int) (a2 : Int) (a3 : Int) (a4 : Int) : Option (ByteArray × Int) := (copyholdref04_Image.f k l0_0 l0_1 a0_2).bind fun t137 => (copyholdref05_stands.l0 k a2 a3 a4 t137 (⟨#[]⟩ : ByteArray) 0 a1_0 a1_1)
theorem copyholdref05_stands.mono_l : ∀ k, (∀ y0 y1 y2, LeO (copyholdref05_stands.j1 k y0 y1 y2) (copyholdref05_stands.j1 (k + 1) y0 y1 y2)) ∧ (∀ y0 y1 y2 y3, LeO (copyholdref05_stands.l1 k y0 y1 y2 y3) (copyholdref05_stands.l1 (k + 1) y0 y1 y2 y3)) ∧ (∀ y0 y1 y2 y3 y4 y5 y6 y7, LeO (copyholdref05_stands.l0 k y0 y1 y2 y3 y4 y5 y6 y7) (copyholdref05_stands.l0 (k + 1) y0 y1 y2 y3 y4 y5 y6 y7))
 | 0 => ⟨fun _ _ _ r h => by simp [copyholdref05_stands.j1] at h, fun _ _ _ _ r h => by simp [copyholdref05_stands.l1] at h, fun _ _ _ _ _ _ _ _ r h => by simp [copyholdref05_stands.l0] at h⟩
 | k + 1 => by
  obtain ⟨ih0, ih1, ih2⟩ := copyholdref05_stands.mono_l k
  refine ⟨?_, ?_, ?_⟩
  ·intro y0 y1 y2
   unfold copyholdref05_stands.j1
   repeat' first
   | (with_reducible exact ih0 _ _ _)
   | (with_reducible exact ih1 _ _ _ _)
   | (with_reducible exact ih2 _ _ _ _ _ _ _ _)
   | (with_reducible exact copyholdref01_TakeText.mono _ _ _)
   | (with_reducible exact copyholdref04_Image.mono _ _ _ _)
   | (with_reducible exact copyholdref05_Need.mono _ _)
   | (with_reducible exact copyholdref05_Record.mono _ _ _)
   | (with_reducible exact LeO.refl _)
   | (with_reducible exact LeO.none _)
   | (with_reducible refine LeO.ite ?_ ?_)
   | (with_reducible refine LeO.bind ?_ (fun _ => ?_))
   | exact ih0 _ _ _
   | exact ih1 _ _ _ _
   | exact ih2 _ _ _ _ _ _ _ _
   | exact copyholdref01_TakeText.mono _ _ _
   | exact copyholdref04_Image.mono _ _ _ _
   | exact copyholdref05_Need.mono _ _
   | exact copyholdref05_Record.mono _ _ _
   | exact LeO.none _
   | refine LeO.ite ?_ ?_
   | refine LeO.bind ?_ (fun _ => ?_)
  ·intro y0 y1 y2 y3
   unfold copyholdref05_stands.l1
   repeat' first
   | (with_reducible exact ih0 _ _ _)
   | (with_reducible exact ih1 _ _ _ _)
   | (with_reducible exact ih2 _ _ _ _ _ _ _ _)
   | (with_reducible exact copyholdref01_TakeText.mono _ _ _)
   | (with_reducible exact copyholdref04_Image.mono _ _ _ _)
   | (with_reducible exact copyholdref05_Need.mono _ _)
   | (with_reducible exact copyholdref05_Record.mono _ _ _)
   | (with_reducible exact LeO.refl _)
   | (with_reducible exact LeO.none _)
   | (with_reducible refine LeO.ite ?_ ?_)
   | (with_reducible refine LeO.bind ?_ (fun _ => ?_))
   | exact ih0 _ _ _
   | exact ih1 _ _ _ _
   | exact ih2 _ _ _ _ _ _ _ _
   | exact copyholdref01_TakeText.mono _ _ _
   | exact copyholdref04_Image.mono _ _ _ _
   | exact copyholdref05_Need.mono _ _
   | exact copyholdref05_Record.mono _ _ _
   | exact LeO.none _
   | refine LeO.ite ?_ ?_
   | refine LeO.bind ?_ (fun _ => ?_)
  ·intro y0 y1 y2 y3 y4 y5 y6 y7
   unfold copyholdref05_stands.l0
   repeat' first
   | (with_reducible exact ih0 _ _ _)
   | (with_reducible exact ih1 _ _ _ _)
   | (with_reducible exact ih2 _ _ _ _ _ _ _ _)
   | (with_reducible exact copyholdref01_TakeText.mono _ _ _)
   | (with_reducible exact copyholdref04_Image.mono _ _ _ _)
   | (with_reducible exact copyholdref05_Need.mono _ _)
   | (with_reducible exact copyholdref05_Record.mono _ _ _)
   | (with_reducible exact LeO.refl _)
   | (with_reducible exact LeO.none _)
   | (with_reducible refine LeO.ite ?_ ?_)
   | (with_reducible refine LeO.bind ?_ (fun _ => ?_))
   | exact ih0 _ _ _
   | exact ih1 _ _ _ _
   | exact ih2 _ _ _ _ _ _ _ _
   | exact copyholdref01_TakeText.mono _ _ _
   | exact copyholdref04_Image.mono _ _ _ _
   | exact copyholdref05_Need.mono _ _
   | exact copyholdref05_Record.mono _ _ _
   | exact LeO.none _
   | refine LeO.ite ?_ ?_
   | refine LeO.bind ?_ (fun _ => ?_)
theorem copyholdref05_stands.mono : ∀ a0 a1 a2 a3 a4 a5 a6 a7 k, LeO (copyholdref05_stands.f k a0 a1 a2 a3 a4 a5 a6 a7) (copyholdref05_stands.f (k + 1) a0 a1 a2 a3 a4 a5 a6 a7) := by
 intro a0 a1 a2 a3 a4 a5 a6 a7 k
 obtain ⟨ih0, ih1, ih2⟩ := copyholdref05_stands.mono_l k
 unfold copyholdref05_stands.f
 repeat' first
   | (with_reducible exact ih0 _ _ _)
   | (with_reducible exact ih1 _ _ _ _)
   | (with_reducible exact ih2 _ _ _ _ _ _ _ _)
   | (with_reducible exact copyholdref01_TakeText.mono _ _ _)
   | (with_reducible exact copyholdref04_Image.mono _ _ _ _)
   | (with_reducible exact copyholdref05_Need.mono _ _)
   | (with_reducible exact copyholdref05_Record.mono _ _ _)
   | (with_reducible exact LeO.refl _)
   | (with_reducible exact LeO.none _)
   | (with_reducible refine LeO.ite ?_ ?_)
   | (with_reducible refine LeO.bind ?_ (fun _ => ?_))
   | exact ih0 _ _ _
   | exact ih1 _ _ _ _
   | exact ih2 _ _ _ _ _ _ _ _
   | exact copyholdref01_TakeText.mono _ _ _
   | exact copyholdref04_Image.mono _ _ _ _
   | exact copyholdref05_Need.mono _ _
   | exact copyholdref05_Record.mono _ _ _
   | exact LeO.none _
   | refine LeO.ite ?_ ?_
   | refine LeO.bind ?_ (fun _ => ?_)
set_option maxHeartbeats 8000000 in
set_option maxRecDepth 100000 in
theorem copyholdref05_stands.calls (k : Nat) (A0_0 : Option Addr) (c0_0 : Nat) (l0_0 : List ByteArray) (A0_1 : Option Addr) (c0_1 : Nat) (l0_1 : List (S88)) (a0_2 : Bool) (a1_0 : Int) (a1_1 : Int) (a2 : Int) (a3 : Int) (a4 : Int) (r1 : ByteArray) (r2 : Int) (w : World) (hr0_0 : Kd.C Kd.string w A0_0 l0_0.length l0_0) (hc0_0 : l0_0.length ≤ c0_0) (hr0_1 : Kd.C k88 w A0_1 l0_1.length l0_1) (hc0_1 : l0_1.length ≤ c0_1) (h : copyholdref05_stands.f k l0_0 l0_1 a0_2 a1_0 a1_1 a2 a3 a4 = some (r1, r2)) :
  Calls Try.prog 48 #[.agg #[.slice A0_0 l0_0.length c0_0, .slice A0_1 l0_1.length c0_1, .bool a0_2], .agg #[.int .i64 a1_0, .int .i64 a1_1], .int .i64 a2, .int .i64 a3, .int .u64 a4] w fun e w' => e = .returned (.tuple #[.string r1, .int .i64 r2]) ∧ Below w.heap.size w w' := by
 have hu25 := Try.underlying25
 have hu27 := Try.underlying27
 have HR0_0 := zqj hr0_0
 have HC0_0 := zqj hc0_0
 clear hr0_0 hc0_0
 have HR0_1 := zqj hr0_1
 have HC0_1 := zqj hc0_1
 clear hr0_1 hc0_1
 have HB := zqj (Below.refl w.heap.size w)
 have H : ((copyholdref04_Image.f k l0_0 l0_1 a0_2).bind fun t137 => (copyholdref05_stands.l0 k a2 a3 a4 t137 (⟨#[]⟩ : ByteArray) 0 a1_0 a1_1)) = some (r1, r2) := h
 clear h
 replace H := zqn H
 obtain ⟨t137, A60, H⟩ := H
 replace H : (copyholdref05_stands.l0 k a2 a3 a4 t137 (⟨#[]⟩ : ByteArray) 0 a1_0 a1_1) = some (r1, r2) := H
 have A6 := zqj A60
 clear A60
 have HC7 := zqj H
 clear H
 go_enter Try.func48, Try.ntmps48
 go_upto_block 0 with (first | ((with_reducible refine gate_dst (N := 5) rfl ?_); refine box_event ?hg (N := 5) ?hd (cs := #[.slice A0_0 l0_0.length c0_0, .slice A0_1 l0_1.length c0_1, .bool a0_2]) (t := 25) ?hr ?_; (case hd => rfl); (case hg => rfl); (case hr => first | (go_simp; done) | (go_simp; rfl)); intro gb135 hg w8 hbox hb; have n0_ := zqj (below_step (by repeat (first | (with_reducible first | exact HB.out | apply zqg | apply zqe | apply zqf) | exact HB.out)) hb); have n1_ := zqj (hbox); have n2_ := zqj ((by rw [hg]; exact (below_size (by repeat (first | (with_reducible first | exact HB.out | apply zqg | apply zqe | apply zqf) | exact HB.out))) : w.heap.size ≤ gb135)); have n3_ := zqj ((by rw [hg]; exact (below_size (by repeat (first | (with_reducible first | exact HB.out | apply zqg | apply zqe | apply zqf) | exact HB.out))) : w.heap.size ≤ gb135)); clear HB; have HB := n0_; have BK135 := n1_; have GW135 := n2_; have GE135 := n3_; clear n0_ n1_ n2_ n3_; clear hb hbox hg) | ((with_reducible refine gate_dst (N := 6) rfl ?_); refine box_event ?hg (N := 6) ?hd (cs := #[.int .i64 a1_0, .int .i64 a1_1]) (t := 27) ?hr ?_; (case hd => rfl); (case hg => rfl); (case hr => first | (go_simp; done) | (go_simp; rfl)); intro gb136 hg w9 hbox hb; have n0_ := zqj (blk_below (g := gb135) (o := .cells #[.slice A0_0 l0_0.length c0_0, .slice A0_1 l0_1.length c0_1, .bool a0_2] 25 (0, 0)) (by (with_reducible repeat (first | refine zqa ?_ _ | refine zqb ?_ | refine zqc ?_ _)); exact BK135.out) hb); have n1_ := zqj (below_step (by repeat (first | (with_reducible first | exact HB.out | apply zqg | apply zqe | apply zqf | refine zqd ?_ GE135.out) | exact HB.out)) hb); have n2_ := zqj (hbox); have n3_ := zqj ((by rw [hg]; exact (below_size (by repeat (first | (with_reducible first | exact HB.out | apply zqg | apply zqe | apply zqf | refine zqd ?_ GE135.out) | exact HB.out))) : w.heap.size ≤ gb136)); have n4_ := zqj ((by rw [hg]; exact (below_size (by repeat (first | (with_reducible first | exact HB.out | apply zqg | apply zqe | apply zqf | refine zqd ?_ GE135.out) | exact HB.out))) : w.heap.size ≤ gb136)); have n5_ := zqj ((by rw [hg]; exact Nat.ne_of_lt (blk_lt (g := gb135) (o := .cells #[.slice A0_0 l0_0.length c0_0, .slice A0_1 l0_1.length c0_1, .bool a0_2] 25 (0, 0)) (by (with_reducible repeat (first | refine zqa ?_ _ | refine zqb ?_ | refine zqc ?_ _)); exact BK135.out)) : gb135 ≠ gb136)); have n6_ := zqj ((by rw [hg]; exact Nat.ne_of_gt (blk_lt (g := gb135) (o := .cells #[.slice A0_0 l0_0.length c0_0, .slice A0_1 l0_1.length c0_1, .bool a0_2] 25 (0, 0)) (by (with_reducible repeat (first | refine zqa ?_ _ | refine zqb ?_ | refine zqc ?_ _)); exact BK135.out)) : gb136 ≠ gb135)); clear BK135; clear HB; have BK135 := n0_; have HB := n1_; have BK136 := n2_; have GW136 := n3_; have GE136 := n4_; have NB135_136 := n5_; have NB136_135 := n6_; clear n0_ n1_ n2_ n3_ n4_ n5_ n6_; clear hb hbox hg; have hnb10 := NB135_136.out; have hnc10 := NB136_135.out; have hcz11_0 : w9.cell? ⟨gb135, 0, none⟩ = some (.slice A0_0 l0_0.length c0_0) := (blk_cell BK135.out 0).trans rfl; have hcz11_1 : w9.cell? ⟨gb135, 1, none⟩ = some (.slice A0_1 l0_1.length c0_1) := (blk_cell BK135.out 1).trans rfl; have hcz11_2 : w9.cell? ⟨gb135, 2, none⟩ = some (.bool a0_2) := (blk_cell BK135.out 2).trans rfl; have hfz11_0 := zqi BK135.out 0; have hfz11_1 := zqi BK135.out 1; have hfz11_2 := zqi BK135.out 2) | (go_at_call 44; (with_reducible refine (copyholdref04_Image.calls k _ _ l0_0 _ _ l0_1 a0_2 t137 _ ?side1 ?side2 ?side3 ?side4 A6.out).mono ?_); (case side1 => repeat (first | exact (Kd.C_below HR0_0.out HB.out) | (with_reducible refine Kd.C_alloc ?_ _) | (with_reducible refine Kd.C_drewN ?_ _) | (with_reducible refine Kd.C_drew ?_))); (case side2 => exact HC0_0.out); (case side3 => repeat (first | exact (Kd.C_below HR0_1.out HB.out) | (with_reducible refine Kd.C_alloc ?_ _) | (with_reducible refine Kd.C_drewN ?_ _) | (with_reducible refine Kd.C_drew ?_))); (case side4 => exact HC0_1.out); rintro e w12 ⟨v138, rfl, ho0, hb⟩; have n0_ := zqj (Kd.R_lower ho0 (below_size (by repeat (first | (with_reducible first | exact HB.out | apply zqg | apply zqe | apply zqf | refine zqd ?_ GE135.out | refine zqd ?_ GE136.out) | exact HB.out)))); have n1_ := zqj (blk_below (g := gb135) (o := .cells #[.slice A0_0 l0_0.length c0_0, .slice A0_1 l0_1.length c0_1, .bool a0_2] 25 (0, 0)) (by (with_reducible repeat (first | refine zqa ?_ _ | refine zqb ?_ | refine zqc ?_ _)); exact BK135.out) hb); have n2_ := zqj (blk_below (g := gb136) (o := .cells #[.int .i64 a1_0, .int .i64 a1_1] 27 (0, 0)) (by (with_reducible repeat (first | refine zqa ?_ _ | refine zqb ?_ | refine zqc ?_ _)); exact BK136.out) hb); have n3_ := zqj (below_step (by repeat (first | (with_reducible first | exact HB.out | apply zqg | apply zqe | apply zqf | refine zqd ?_ GE135.out | refine zqd ?_ GE136.out) | exact HB.out)) hb); clear BK135; clear BK136; clear HB; have HO139 := n0_; have BK135 := n1_; have BK136 := n2_; have HB := n3_; clear n0_ n1_ n2_ n3_; (try clear hb); (try clear hb2); (try clear hk); (try clear hi); (try clear ho0)))
 repeat (go_quiet (first | ((with_reducible refine gate_dst (N := 5) rfl ?_); refine box_event ?hg (N := 5) ?hd (cs := #[.slice A0_0 l0_0.length c0_0, .slice A0_1 l0_1.length c0_1, .bool a0_2]) (t := 25) ?hr ?_; (case hd => rfl); (case hg => rfl); (case hr => first | (go_simp; done) | (go_simp; rfl)); intro gb135 hg w8 hbox hb; have n0_ := zqj (below_step (by repeat (first | (with_reducible first | exact HB.out | apply zqg | apply zqe | apply zqf) | exact HB.out)) hb); have n1_ := zqj (hbox); have n2_ := zqj ((by rw [hg]; exact (below_size (by repeat (first | (with_reducible first | exact HB.out | apply zqg | apply zqe | apply zqf) | exact HB.out))) : w.heap.size ≤ gb135)); have n3_ := zqj ((by rw [hg]; exact (below_size (by repeat (first | (with_reducible first | exact HB.out | apply zqg | apply zqe | apply zqf) | exact HB.out))) : w.heap.size ≤ gb135)); clear HB; have HB := n0_; have BK135 := n1_; have GW135 := n2_; have GE135 := n3_; clear n0_ n1_ n2_ n3_; clear hb hbox hg) | ((with_reducible refine gate_dst (N := 6) rfl ?_); refine box_event ?hg (N := 6) ?hd (cs := #[.int .i64 a1_0, .int .i64 a1_1]) (t := 27) ?hr ?_; (case hd => rfl); (case hg => rfl); (case hr => first | (go_simp; done) | (go_simp; rfl)); intro gb136 hg w9 hbox hb; have n0_ := zqj (blk_below (g := gb135) (o := .cells #[.slice A0_0 l0_0.length c0_0, .slice A0_1 l0_1.length c0_1, .bool a0_2] 25 (0, 0)) (by (with_reducible repeat (first | refine zqa ?_ _ | refine zqb ?_ | refine zqc ?_ _)); exact BK135.out) hb); have n1_ := zqj (below_step (by repeat (first | (with_reducible first | exact HB.out | apply zqg | apply zqe | apply zqf | refine zqd ?_ GE135.out) | exact HB.out)) hb); have n2_ := zqj (hbox); have n3_ := zqj ((by rw [hg]; exact (below_size (by repeat (first | (with_reducible first | exact HB.out | apply zqg | apply zqe | apply zqf | refine zqd ?_ GE135.out) | exact HB.out))) : w.heap.size ≤ gb136)); have n4_ := zqj ((by rw [hg]; exact (below_size (by repeat (first | (with_reducible first | exact HB.out | apply zqg | apply zqe | apply zqf | refine zqd ?_ GE135.out) | exact HB.out))) : w.heap.size ≤ gb136)); have n5_ := zqj ((by rw [hg]; exact Nat.ne_of_lt (blk_lt (g := gb135) (o := .cells #[.slice A0_0 l0_0.length c0_0, .slice A0_1 l0_1.length c0_1, .bool a0_2] 25 (0, 0)) (by (with_reducible repeat (first | refine zqa ?_ _ | refine zqb ?_ | refine zqc ?_ _)); exact BK135.out)) : gb135 ≠ gb136)); have n6_ := zqj ((by rw [hg]; exact Nat.ne_of_gt (blk_lt (g := gb135) (o := .cells #[.slice A0_0 l0_0.length c0_0, .slice A0_1 l0_1.length c0_1, .bool a0_2] 25 (0, 0)) (by (with_reducible repeat (first | refine zqa ?_ _ | refine zqb ?_ | refine zqc ?_ _)); exact BK135.out)) : gb136 ≠ gb135)); clear BK135; clear HB; have BK135 := n0_; have HB := n1_; have BK136 := n2_; have GW136 := n3_; have GE136 := n4_; have NB135_136 := n5_; have NB136_135 := n6_; clear n0_ n1_ n2_ n3_ n4_ n5_ n6_; clear hb hbox hg; have hnb10 := NB135_136.out; have hnc10 := NB136_135.out; have hcz11_0 : w9.cell? ⟨gb135, 0, none⟩ = some (.slice A0_0 l0_0.length c0_0) := (blk_cell BK135.out 0).trans rfl; have hcz11_1 : w9.cell? ⟨gb135, 1, none⟩ = some (.slice A0_1 l0_1.length c0_1) := (blk_cell BK135.out 1).trans rfl; have hcz11_2 : w9.cell? ⟨gb135, 2, none⟩ = some (.bool a0_2) := (blk_cell BK135.out 2).trans rfl; have hfz11_0 := zqi BK135.out 0; have hfz11_1 := zqi BK135.out 1; have hfz11_2 := zqi BK135.out 2) | (go_at_call 44; (with_reducible refine (copyholdref04_Image.calls k _ _ l0_0 _ _ l0_1 a0_2 t137 _ ?side1 ?side2 ?side3 ?side4 A6.out).mono ?_); (case side1 => repeat (first | exact (Kd.C_below HR0_0.out HB.out) | (with_reducible refine Kd.C_alloc ?_ _) | (with_reducible refine Kd.C_drewN ?_ _) | (with_reducible refine Kd.C_drew ?_))); (case side2 => exact HC0_0.out); (case side3 => repeat (first | exact (Kd.C_below HR0_1.out HB.out) | (with_reducible refine Kd.C_alloc ?_ _) | (with_reducible refine Kd.C_drewN ?_ _) | (with_reducible refine Kd.C_drew ?_))); (case side4 => exact HC0_1.out); rintro e w12 ⟨v138, rfl, ho0, hb⟩; have n0_ := zqj (Kd.R_lower ho0 (below_size (by repeat (first | (with_reducible first | exact HB.out | apply zqg | apply zqe | apply zqf | refine zqd ?_ GE135.out | refine zqd ?_ GE136.out) | exact HB.out)))); have n1_ := zqj (blk_below (g := gb135) (o := .cells #[.slice A0_0 l0_0.length c0_0, .slice A0_1 l0_1.length c0_1, .bool a0_2] 25 (0, 0)) (by (with_reducible repeat (first | refine zqa ?_ _ | refine zqb ?_ | refine zqc ?_ _)); exact BK135.out) hb); have n2_ := zqj (blk_below (g := gb136) (o := .cells #[.int .i64 a1_0, .int .i64 a1_1] 27 (0, 0)) (by (with_reducible repeat (first | refine zqa ?_ _ | refine zqb ?_ | refine zqc ?_ _)); exact BK136.out) hb); have n3_ := zqj (below_step (by repeat (first | (with_reducible first | exact HB.out | apply zqg | apply zqe | apply zqf | refine zqd ?_ GE135.out | refine zqd ?_ GE136.out) | exact HB.out)) hb); clear BK135; clear BK136; clear HB; have HO139 := n0_; have BK135 := n1_; have BK136 := n2_; have HB := n3_; clear n0_ n1_ n2_ n3_; (try clear hb); (try clear hb2); (try clear hk); (try clear hi); (try clear ho0))); go_upto_block 0 with (first | ((with_reducible refine gate_dst (N := 5) rfl ?_); refine box_event ?hg (N := 5) ?hd (cs := #[.slice A0_0 l0_0.length c0_0, .slice A0_1 l0_1.length c0_1, .bool a0_2]) (t := 25) ?hr ?_; (case hd => rfl); (case hg => rfl); (case hr => first | (go_simp; done) | (go_simp; rfl)); intro gb135 hg w8 hbox hb; have n0_ := zqj (below_step (by repeat (first | (with_reducible first | exact HB.out | apply zqg | apply zqe | apply zqf) | exact HB.out)) hb); have n1_ := zqj (hbox); have n2_ := zqj ((by rw [hg]; exact (below_size (by repeat (first | (with_reducible first | exact HB.out | apply zqg | apply zqe | apply zqf) | exact HB.out))) : w.heap.size ≤ gb135)); have n3_ := zqj ((by rw [hg]; exact (below_size (by repeat (first | (with_reducible first | exact HB.out | apply zqg | apply zqe | apply zqf) | exact HB.out))) : w.heap.size ≤ gb135)); clear HB; have HB := n0_; have BK135 := n1_; have GW135 := n2_; have GE135 := n3_; clear n0_ n1_ n2_ n3_; clear hb hbox hg) | ((with_reducible refine gate_dst (N := 6) rfl ?_); refine box_event ?hg (N := 6) ?hd (cs := #[.int .i64 a1_0, .int .i64 a1_1]) (t := 27) ?hr ?_; (case hd => rfl); (case hg => rfl); (case hr => first | (go_simp; done) | (go_simp; rfl)); intro gb136 hg w9 hbox hb; have n0_ := zqj (blk_below (g := gb135) (o := .cells #[.slice A0_0 l0_0.length c0_0, .slice A0_1 l0_1.length c0_1, .bool a0_2] 25 (0, 0)) (by (with_reducible repeat (first | refine zqa ?_ _ | refine zqb ?_ | refine zqc ?_ _)); exact BK135.out) hb); have n1_ := zqj (below_step (by repeat (first | (with_reducible first | exact HB.out | apply zqg | apply zqe | apply zqf | refine zqd ?_ GE135.out) | exact HB.out)) hb); have n2_ := zqj (hbox); have n3_ := zqj ((by rw [hg]; exact (below_size (by repeat (first | (with_reducible first | exact HB.out | apply zqg | apply zqe | apply zqf | refine zqd ?_ GE135.out) | exact HB.out))) : w.heap.size ≤ gb136)); have n4_ := zqj ((by rw [hg]; exact (below_size (by repeat (first | (with_reducible first | exact HB.out | apply zqg | apply zqe | apply zqf | refine zqd ?_ GE135.out) | exact HB.out))) : w.heap.size ≤ gb136)); have n5_ := zqj ((by rw [hg]; exact Nat.ne_of_lt (blk_lt (g := gb135) (o := .cells #[.slice A0_0 l0_0.length c0_0, .slice A0_1 l0_1.length c0_1, .bool a0_2] 25 (0, 0)) (by (with_reducible repeat (first | refine zqa ?_ _ | refine zqb ?_ | refine zqc ?_ _)); exact BK135.out)) : gb135 ≠ gb136)); have n6_ := zqj ((by rw [hg]; exact Nat.ne_of_gt (blk_lt (g := gb135) (o := .cells #[.slice A0_0 l0_0.length c0_0, .slice A0_1 l0_1.length c0_1, .bool a0_2] 25 (0, 0)) (by (with_reducible repeat (first | refine zqa ?_ _ | refine zqb ?_ | refine zqc ?_ _)); exact BK135.out)) : gb136 ≠ gb135)); clear BK135; clear HB; have BK135 := n0_; have HB := n1_; have BK136 := n2_; have GW136 := n3_; have GE136 := n4_; have NB135_136 := n5_; have NB136_135 := n6_; clear n0_ n1_ n2_ n3_ n4_ n5_ n6_; clear hb hbox hg; have hnb10 := NB135_136.out; have hnc10 := NB136_135.out; have hcz11_0 : w9.cell? ⟨gb135, 0, none⟩ = some (.slice A0_0 l0_0.length c0_0) := (blk_cell BK135.out 0).trans rfl; have hcz11_1 : w9.cell? ⟨gb135, 1, none⟩ = some (.slice A0_1 l0_1.length c0_1) := (blk_cell BK135.out 1).trans rfl; have hcz11_2 : w9.cell? ⟨gb135, 2, none⟩ = some (.bool a0_2) := (blk_cell BK135.out 2).trans rfl; have hfz11_0 := zqi BK135.out 0; have hfz11_1 := zqi BK135.out 1; have hfz11_2 := zqi BK135.out 2) | (go_at_call 44; (with_reducible refine (copyholdref04_Image.calls k _ _ l0_0 _ _ l0_1 a0_2 t137 _ ?side1 ?side2 ?side3 ?side4 A6.out).mono ?_); (case side1 => repeat (first | exact (Kd.C_below HR0_0.out HB.out) | (with_reducible refine Kd.C_alloc ?_ _) | (with_reducible refine Kd.C_drewN ?_ _) | (with_reducible refine Kd.C_drew ?_))); (case side2 => exact HC0_0.out); (case side3 => repeat (first | exact (Kd.C_below HR0_1.out HB.out) | (with_reducible refine Kd.C_alloc ?_ _) | (with_reducible refine Kd.C_drewN ?_ _) | (with_reducible refine Kd.C_drew ?_))); (case side4 => exact HC0_1.out); rintro e w12 ⟨v138, rfl, ho0, hb⟩; have n0_ := zqj (Kd.R_lower ho0 (below_size (by repeat (first | (with_reducible first | exact HB.out | apply zqg | apply zqe | apply zqf | refine zqd ?_ GE135.out | refine zqd ?_ GE136.out) | exact HB.out)))); have n1_ := zqj (blk_below (g := gb135) (o := .cells #[.slice A0_0 l0_0.length c0_0, .slice A0_1 l0_1.length c0_1, .bool a0_2] 25 (0, 0)) (by (with_reducible repeat (first | refine zqa ?_ _ | refine zqb ?_ | refine zqc ?_ _)); exact BK135.out) hb); have n2_ := zqj (blk_below (g := gb136) (o := .cells #[.int .i64 a1_0, .int .i64 a1_1] 27 (0, 0)) (by (with_reducible repeat (first | refine zqa ?_ _ | refine zqb ?_ | refine zqc ?_ _)); exact BK136.out) hb); have n3_ := zqj (below_step (by repeat (first | (with_reducible first | exact HB.out | apply zqg | apply zqe | apply zqf | refine zqd ?_ GE135.out | refine zqd ?_ GE136.out) | exact HB.out)) hb); clear BK135; clear BK136; clear HB; have HO139 := n0_; have BK135 := n1_; have BK136 := n2_; have HB := n3_; clear n0_ n1_ n2_ n3_; (try clear hb); (try clear hb2); (try clear hk); (try clear hi); (try clear ho0))))
 (try simp only [Act.put, zqk, zql, zqm])
 go_cut [13] (fun v13 wc => ∃ (kq : Nat) (x13_6 : ByteArray), v13 = .string x13_6 ∧ Aside0 (copyholdref05_stands.j1 kq a3 a4 x13_6 = some (r1, r2)) ∧ Aside0 (kq ≤ k) ∧ Aside0 (wc.heap[gb135]? = some (.cells #[(.slice A0_0 l0_0.length c0_0), (.slice A0_1 l0_1.length c0_1), .bool a0_2] 25 (0, 0))) ∧ Aside0 (wc.heap[gb136]? = some (.cells #[.int .i64 a1_0, .int .i64 a1_1] 27 (0, 0))) ∧ Aside0 (Below w.heap.size w wc))
 case first =>
  (have H := HC7.out; clear HC7)
  have H' := zqj H
  clear H
  go_wp2
  repeat (go_quiet (fail); try go_wp2)
  go_loopg [13, 14] k (fun kq v13 v14 w' => ∃ (x13_1 : ByteArray) (x14_1 : Int), v13 = .string x13_1 ∧ v14 = .int .i64 x14_1 ∧ Aside0 (copyholdref05_stands.l0 kq a2 a3 a4 t137 x13_1 x14_1 a1_0 a1_1 = some (r1, r2)) ∧ Aside0 (kq ≤ k) ∧ Aside0 (Kd.R Kd.string 9 w' w.heap.size (fun _ => True) v138 t137) ∧ Aside0 (w'.heap[gb135]? = some (.cells #[(.slice A0_0 l0_0.length c0_0), (.slice A0_1 l0_1.length c0_1), .bool a0_2] 25 (0, 0))) ∧ Aside0 (w'.heap[gb136]? = some (.cells #[.int .i64 a1_0, .int .i64 a1_1] 27 (0, 0))) ∧ Aside0 (Below w.heap.size w w'))
  case atStart => exact ⟨((⟨#[]⟩ : ByteArray)), (0), (by first | rfl | (simp; done) | (simp [*]; done)), (by first | rfl | (simp; done) | (simp [*]; done)), H', ⟨Nat.le_refl _⟩, ⟨by (with_reducible repeat (first | apply Kd.R_alloc | apply Kd.R_drewN | apply Kd.R_drew)); exact HO139.out⟩, ⟨by (with_reducible repeat (first | refine zqa ?_ _ | refine zqb ?_ | refine zqc ?_ _)); exact BK135.out⟩, ⟨by (with_reducible repeat (first | refine zqa ?_ _ | refine zqb ?_ | refine zqc ?_ _)); exact BK136.out⟩, ⟨by repeat (first | (with_reducible first | exact HB.out | apply zqg | apply zqe | apply zqf | refine zqd ?_ GE135.out | refine zqd ?_ GE136.out) | exact HB.out)⟩⟩
  case round =>
   clear H'
   ((try clear c1); (try clear p2); (try clear c4); (try clear c10); (try clear hcz11_0); (try clear hcz11_1); (try clear hcz11_2); (try clear hfz11_0); (try clear hfz11_1); (try clear hfz11_2))
   obtain ⟨x13_1, x14_1, rfl, rfl, HA, HK1, HO_12, BK135, BK136, HB⟩ := hrel
   cases gk with
   | zero => exact absurd HA.out (by simp [copyholdref05_stands.l0])
   | succ k1 =>
    (have H := HA.out; clear HA)
    simp only [copyholdref05_stands.l0] at H
    by_cases c13 : x14_1 < a3
    ·rw [if_pos c13] at H
     have c13b0 : decide (x14_1 < a3) = true := decide_eq_true c13
     clear c13
     (first | rw [c13b0] | (simp only [i64_w, i32_w]; rw [c13b0]) | skip)
     by_cases c14 : x14_1 < 66
     ·rw [if_pos c14] at H
      have c14b0 : decide (x14_1 < 66) = true := decide_eq_true c14
      clear c14
      by_cases c15 : a1_1 = 0
      ·rw [if_pos c15] at H
       exact absurd H (by simp)
      ·rw [if_neg c15] at H
       have c15b0 : (a1_1 == 0) = false := beq_eq_false_iff_ne.mpr c15
       have c15b1 : (a1_1 != 0) = true := bne_iff_ne.mpr c15
       obtain ⟨ji16, hji16⟩ : ∃ j_ : Int, (wrap64 (a1_0 + (Int.tmod (wrap64 (a2 + x14_1)) a1_1))) = j_ := ⟨_, rfl⟩
       replace H : (if 0 ≤ (ji16) then (if (ji16) < (t137.length : Int) then (if x13_1.size + (rdOf ByteArray.empty t137 (ji16)).size ≤ 9223372036854775807 then (copyholdref05_stands.l0 k1 a2 a3 a4 t137 (x13_1 ++ (rdOf ByteArray.empty t137 (ji16))) (wrap64 (x14_1 + 1)) a1_0 a1_1) else (none)) else (none)) else (none)) = some (r1, r2) := by first | (rw [hji16] at H; exact H) | (simp only [hji16] at H ⊢; exact H)
       have hji16w : (IntKind.i64.wrap (a1_0 + (Int.tmod (wrap64 (a2 + x14_1)) a1_1))) = ji16 := (i64_w _).trans hji16
       by_cases c17 : 0 ≤ (ji16)
       ·rw [if_pos c17] at H
        have c17b0 : decide (0 ≤ (ji16)) = true := decide_eq_true c17
        clear c17
        by_cases c18 : (ji16) < (t137.length : Int)
        ·rw [if_pos c18] at H
         have c18b0 : decide ((ji16) < (t137.length : Int)) = true := decide_eq_true c18
         clear c18
         by_cases c19 : x13_1.size + (rdOf ByteArray.empty t137 (ji16)).size ≤ 9223372036854775807
         ·rw [if_pos c19] at H
          have c19b0 := eq_true c19
          have c19b1 : decide (x13_1.size + (rdOf ByteArray.empty t137 (ji16)).size ≤ 9223372036854775807) = true := decide_eq_true c19
          try have c19b2 : (9223372036854775807 < x13_1.size + (rdOf ByteArray.empty t137 (ji16)).size) = False := eq_false (Nat.not_lt.2 c19)
          have H' := zqj H
          clear H
          have hnb20 := NB136_135.out
          have hnc20 := NB135_136.out
          have hcz21_0 : wr.cell? ⟨gb136, 0, none⟩ = some (.int .i64 a1_0) := (blk_cell BK136.out 0).trans rfl
          have hcz21_1 : wr.cell? ⟨gb136, 1, none⟩ = some (.int .i64 a1_1) := (blk_cell BK136.out 1).trans rfl
          (have hfz21_0 := zqi BK136.out 0; have hfz21_1 := zqi BK136.out 1)
          obtain ⟨Ao22, co22, eo22⟩ := Kd.R_slice HO_12.out
          subst eo22
          have p140 : 0 ≤ ((ji16) : Int) := zqh (by first | (with_reducible assumption) | assumption)
          have q140 : (ji16) < (t137.length : Int) := zqh (by first | (with_reducible assumption) | assumption)
          obtain ⟨ad140, e140, hx140_0⟩ := Kd.at_string (Kd.R_reads' HO_12.out).2.2 (ji16) p140 q140
          cases e140
          replace p140 := eq_true p140
          replace q140 := eq_true q140
          go_wp2
          repeat (go_quiet (fail); try go_wp2)
          go_roundg k1
          case measure => have := HK1.out; omega
          case rel => exact ⟨(x13_1 ++ (rdOf ByteArray.empty t137 (ji16))), (wrap64 (x14_1 + 1)), (by first | rfl | (simp; done) | (simp only [← hji16] <;> (first | rfl | simp)) | (simp [*]; done)), (by first | rfl | (simp; done) | (simp [*]; done)), H', ⟨by have := HK1.out; omega⟩, ⟨by (with_reducible repeat (first | apply Kd.R_alloc | apply Kd.R_drewN | apply Kd.R_drew)); exact HO_12.out⟩, ⟨by (with_reducible repeat (first | refine zqa ?_ _ | refine zqb ?_ | refine zqc ?_ _)); exact BK135.out⟩, ⟨by (with_reducible repeat (first | refine zqa ?_ _ | refine zqb ?_ | refine zqc ?_ _)); exact BK136.out⟩, ⟨by repeat (first | (with_reducible first | exact HB.out | apply zqg | apply zqe | apply zqf | refine zqd ?_ GE135.out | refine zqd ?_ GE136.out) | exact HB.out)⟩⟩
         ·rw [if_neg c19] at H
          exact absurd H (by simp)
        ·rw [if_neg c18] at H
         exact absurd H (by simp)
       ·rw [if_neg c17] at H
        exact absurd H (by simp)
     ·rw [if_neg c14] at H
      have c14b0 : decide (x14_1 < 66) = false := decide_eq_false c14
      clear c14
      have H' := zqj H
      clear H
      go_wp2
      repeat (go_quiet (fail); try go_wp2)
      go_meet
      case rel => exact ⟨_, (x13_1), (by first | rfl | (simp; done) | (simp [*]; done)), H', ⟨by have := HK1.out; first | omega | exact Nat.le_refl _⟩, ⟨by (with_reducible repeat (first | refine zqa ?_ _ | refine zqb ?_ | refine zqc ?_ _)); exact BK135.out⟩, ⟨by (with_reducible repeat (first | refine zqa ?_ _ | refine zqb ?_ | refine zqc ?_ _)); exact BK136.out⟩, ⟨by repeat (first | (with_reducible first | exact HB.out | apply zqg | apply zqe | apply zqf | refine zqd ?_ GE135.out | refine zqd ?_ GE136.out) | exact HB.out)⟩⟩
    ·rw [if_neg c13] at H
     have c13b0 : decide (x14_1 < a3) = false := decide_eq_false c13
     clear c13
     (first | rw [c13b0] | (simp only [i64_w, i32_w]; rw [c13b0]) | skip)
     have H' := zqj H
     clear H
     go_wp2
     repeat (go_quiet (fail); try go_wp2)
     go_meet
     case rel => exact ⟨_, (x13_1), (by first | rfl | (simp; done) | (simp [*]; done)), H', ⟨by have := HK1.out; first | omega | exact Nat.le_refl _⟩, ⟨by (with_reducible repeat (first | refine zqa ?_ _ | refine zqb ?_ | refine zqc ?_ _)); exact BK135.out⟩, ⟨by (with_reducible repeat (first | refine zqa ?_ _ | refine zqb ?_ | refine zqc ?_ _)); exact BK136.out⟩, ⟨by repeat (first | (with_reducible first | exact HB.out | apply zqg | apply zqe | apply zqf | refine zqd ?_ GE135.out | refine zqd ?_ GE136.out) | exact HB.out)⟩⟩
 case rest =>
  (clear HC7; (try clear c1); (try clear p1); (try clear q1); (try clear hx1); (try clear c2); (try clear p2); (try clear c4); (try clear p6); (try clear c10); (try clear c13); (try clear c13b0); (try clear c14); (try clear c14b0); (try clear p14); (try clear q14); (try clear hx14); (try clear c15); (try clear c15b0); (try clear c15b1); (try clear c17); (try clear c17b0); (try clear c18); (try clear c18b0); (try clear c19); (try clear c19b0); (try clear c19b1); (try clear c19b2); (try clear c20); (try clear hcz11_0); (try clear hcz11_1); (try clear hcz11_2); (try clear hcz21_0); (try clear hcz21_1); (try clear hfz11_0); (try clear hfz11_1); (try clear hfz11_2); (try clear hfz21_0); (try clear hfz21_1); (try clear hx140_0); (try clear p140); (try clear p2); (try clear q140))
  obtain ⟨kq, x13_6, rfl, HA, HJ6, BK135, BK136, HB⟩ := hcut
  cases kq with
  | zero => exact absurd HA.out (by simp [copyholdref05_stands.j1])
  | succ kj6 =>
   (have H := HA.out; clear HA)
   simp only [copyholdref05_stands.j1] at H
   by_cases c23 : (x13_6.size : Int) < 64
   ·rw [if_pos c23] at H
    have c23b0 : decide ((x13_6.size : Int) < 64) = true := decide_eq_true c23
    have c23b1 : decide (x13_6.size < 64) = true := decide_eq_true (by omega)
    clear c23
    simp only [Option.some.injEq, Prod.mk.injEq] at H
    obtain ⟨rfl, rfl⟩ := H
    go_wp2
    repeat (go_quiet (fail); try go_wp2)
    go_ret2
    exact ⟨by first | rfl | (simp [errW_none, errW_some] <;> rfl) | (simp [*, errW_none, errW_some] <;> rfl), by repeat (first | (with_reducible first | exact HB.out | apply zqg | apply zqe | apply zqf | refine zqd ?_ GE135.out | refine zqd ?_ GE136.out) | exact HB.out)⟩
   ·rw [if_neg c23] at H
    have c23b0 : decide ((x13_6.size : Int) < 64) = false := decide_eq_false c23
    have c23b1 : decide (x13_6.size < 64) = false := decide_eq_false (by omega)
    clear c23
    by_cases c24 : 8 ≤ (x13_6.size : Int)
    ·rw [if_pos c24] at H
     have c24b0 := eq_true c24
     have c24b1 : decide (8 ≤ (x13_6.size : Int)) = true := decide_eq_true c24
     clear c24
     replace H := zqn H
     obtain ⟨⟨t141, t142, t143⟩, A250, H⟩ := H
     replace H : (if t143 = 0 then ((copyholdref05_Record.f kj6 a4 t141).bind fun t144 => ((copyholdref05_Need.f kj6 t141).bind fun t145 => (if t145 > a3 then (some ((⟨#[]⟩ : ByteArray), 0)) else (copyholdref05_stands.l1 kj6 x13_6 t141 t144 t145)))) else (some ((⟨#[]⟩ : ByteArray), 0))) = some (r1, r2) := H
     have A25 := zqj A250
     clear A250
     by_cases c26 : t143 = 0
     ·rw [if_pos c26] at H
      have c26b0 : (t143 == 0) = true := beq_iff_eq.mpr c26
      have c26b1 : (t143 != 0) = false := bne_eq_false_iff_eq.mpr c26
      clear c26
      replace H := zqn H
      obtain ⟨t144, A270, H⟩ := H
      replace H : ((copyholdref05_Need.f kj6 t141).bind fun t145 => (if t145 > a3 then (some ((⟨#[]⟩ : ByteArray), 0)) else (copyholdref05_stands.l1 kj6 x13_6 t141 t144 t145))) = some (r1, r2) := H
      have A27 := zqj A270
      clear A270
      replace H := zqn H
      obtain ⟨t145, A280, H⟩ := H
      replace H : (if t145 > a3 then (some ((⟨#[]⟩ : ByteArray), 0)) else (copyholdref05_stands.l1 kj6 x13_6 t141 t144 t145)) = some (r1, r2) := H
      have A28 := zqj A280
      clear A280
      by_cases c29 : t145 > a3
      ·rw [if_pos c29] at H
       have c29b0 : decide (a3 < t145) = true := decide_eq_true c29
       clear c29
       simp only [Option.some.injEq, Prod.mk.injEq] at H
       obtain ⟨rfl, rfl⟩ := H
       go_wp2_with (first | (go_at_call 60; (with_reducible refine (copyholdref01_TakeText.calls kj6 (x13_6.extract 8 x13_6.size) 4096 t141 t142 t143 _ A25.out).mono ?_); rintro e w30 ⟨rfl, hb⟩; have n0_ := zqj (blk_below (g := gb135) (o := .cells #[.slice A0_0 l0_0.length c0_0, .slice A0_1 l0_1.length c0_1, .bool a0_2] 25 (0, 0)) (by (with_reducible repeat (first | refine zqa ?_ _ | refine zqb ?_ | refine zqc ?_ _)); exact BK135.out) hb); have n1_ := zqj (blk_below (g := gb136) (o := .cells #[.int .i64 a1_0, .int .i64 a1_1] 27 (0, 0)) (by (with_reducible repeat (first | refine zqa ?_ _ | refine zqb ?_ | refine zqc ?_ _)); exact BK136.out) hb); have n2_ := zqj (below_step (by repeat (first | (with_reducible first | exact HB.out | apply zqg | apply zqe | apply zqf | refine zqd ?_ GE135.out | refine zqd ?_ GE136.out) | exact HB.out)) hb); clear BK135; clear BK136; clear HB; have BK135 := n0_; have BK136 := n1_; have HB := n2_; clear n0_ n1_ n2_; (try clear hb); (try clear hb2); (try clear hk); (try clear hi)) | (go_at_call 20; (with_reducible refine (copyholdref05_Record.calls kj6 a4 t141 t144 _ A27.out).mono ?_); rintro e w31 ⟨rfl, hb⟩; have n0_ := zqj (blk_below (g := gb135) (o := .cells #[.slice A0_0 l0_0.length c0_0, .slice A0_1 l0_1.length c0_1, .bool a0_2] 25 (0, 0)) (by (with_reducible repeat (first | refine zqa ?_ _ | refine zqb ?_ | refine zqc ?_ _)); exact BK135.out) hb); have n1_ := zqj (blk_below (g := gb136) (o := .cells #[.int .i64 a1_0, .int .i64 a1_1] 27 (0, 0)) (by (with_reducible repeat (first | refine zqa ?_ _ | refine zqb ?_ | refine zqc ?_ _)); exact BK136.out) hb); have n2_ := zqj (below_step (by repeat (first | (with_reducible first | exact HB.out | apply zqg | apply zqe | apply zqf | refine zqd ?_ GE135.out | refine zqd ?_ GE136.out) | exact HB.out)) hb); clear BK135; clear BK136; clear HB; have BK135 := n0_; have BK136 := n1_; have HB := n2_; clear n0_ n1_ n2_; (try clear hb); (try clear hb2); (try clear hk); (try clear hi)) | (go_at_call 21; (with_reducible refine (copyholdref05_Need.calls kj6 t141 t145 _ A28.out).mono ?_); rintro e w32 ⟨rfl, hb⟩; have n0_ := zqj (blk_below (g := gb135) (o := .cells #[.slice A0_0 l0_0.length c0_0, .slice A0_1 l0_1.length c0_1, .bool a0_2] 25 (0, 0)) (by (with_reducible repeat (first | refine zqa ?_ _ | refine zqb ?_ | refine zqc ?_ _)); exact BK135.out) hb); have n1_ := zqj (blk_below (g := gb136) (o := .cells #[.int .i64 a1_0, .int .i64 a1_1] 27 (0, 0)) (by (with_reducible repeat (first | refine zqa ?_ _ | refine zqb ?_ | refine zqc ?_ _)); exact BK136.out) hb); have n2_ := zqj (below_step (by repeat (first | (with_reducible first | exact HB.out | apply zqg | apply zqe | apply zqf | refine zqd ?_ GE135.out | refine zqd ?_ GE136.out) | exact HB.out)) hb); clear BK135; clear BK136; clear HB; have BK135 := n0_; have BK136 := n1_; have HB := n2_; clear n0_ n1_ n2_; (try clear hb); (try clear hb2); (try clear hk); (try clear hi)))
       repeat (go_quiet (first | (go_at_call 60; (with_reducible refine (copyholdref01_TakeText.calls kj6 (x13_6.extract 8 x13_6.size) 4096 t141 t142 t143 _ A25.out).mono ?_); rintro e w30 ⟨rfl, hb⟩; have n0_ := zqj (blk_below (g := gb135) (o := .cells #[.slice A0_0 l0_0.length c0_0, .slice A0_1 l0_1.length c0_1, .bool a0_2] 25 (0, 0)) (by (with_reducible repeat (first | refine zqa ?_ _ | refine zqb ?_ | refine zqc ?_ _)); exact BK135.out) hb); have n1_ := zqj (blk_below (g := gb136) (o := .cells #[.int .i64 a1_0, .int .i64 a1_1] 27 (0, 0)) (by (with_reducible repeat (first | refine zqa ?_ _ | refine zqb ?_ | refine zqc ?_ _)); exact BK136.out) hb); have n2_ := zqj (below_step (by repeat (first | (with_reducible first | exact HB.out | apply zqg | apply zqe | apply zqf | refine zqd ?_ GE135.out | refine zqd ?_ GE136.out) | exact HB.out)) hb); clear BK135; clear BK136; clear HB; have BK135 := n0_; have BK136 := n1_; have HB := n2_; clear n0_ n1_ n2_; (try clear hb); (try clear hb2); (try clear hk); (try clear hi)) | (go_at_call 20; (with_reducible refine (copyholdref05_Record.calls kj6 a4 t141 t144 _ A27.out).mono ?_); rintro e w31 ⟨rfl, hb⟩; have n0_ := zqj (blk_below (g := gb135) (o := .cells #[.slice A0_0 l0_0.length c0_0, .slice A0_1 l0_1.length c0_1, .bool a0_2] 25 (0, 0)) (by (with_reducible repeat (first | refine zqa ?_ _ | refine zqb ?_ | refine zqc ?_ _)); exact BK135.out) hb); have n1_ := zqj (blk_below (g := gb136) (o := .cells #[.int .i64 a1_0, .int .i64 a1_1] 27 (0, 0)) (by (with_reducible repeat (first | refine zqa ?_ _ | refine zqb ?_ | refine zqc ?_ _)); exact BK136.out) hb); have n2_ := zqj (below_step (by repeat (first | (with_reducible first | exact HB.out | apply zqg | apply zqe | apply zqf | refine zqd ?_ GE135.out | refine zqd ?_ GE136.out) | exact HB.out)) hb); clear BK135; clear BK136; clear HB; have BK135 := n0_; have BK136 := n1_; have HB := n2_; clear n0_ n1_ n2_; (try clear hb); (try clear hb2); (try clear hk); (try clear hi)) | (go_at_call 21; (with_reducible refine (copyholdref05_Need.calls kj6 t141 t145 _ A28.out).mono ?_); rintro e w32 ⟨rfl, hb⟩; have n0_ := zqj (blk_below (g := gb135) (o := .cells #[.slice A0_0 l0_0.length c0_0, .slice A0_1 l0_1.length c0_1, .bool a0_2] 25 (0, 0)) (by (with_reducible repeat (first | refine zqa ?_ _ | refine zqb ?_ | refine zqc ?_ _)); exact BK135.out) hb); have n1_ := zqj (blk_below (g := gb136) (o := .cells #[.int .i64 a1_0, .int .i64 a1_1] 27 (0, 0)) (by (with_reducible repeat (first | refine zqa ?_ _ | refine zqb ?_ | refine zqc ?_ _)); exact BK136.out) hb); have n2_ := zqj (below_step (by repeat (first | (with_reducible first | exact HB.out | apply zqg | apply zqe | apply zqf | refine zqd ?_ GE135.out | refine zqd ?_ GE136.out) | exact HB.out)) hb); clear BK135; clear BK136; clear HB; have BK135 := n0_; have BK136 := n1_; have HB := n2_; clear n0_ n1_ n2_; (try clear hb); (try clear hb2); (try clear hk); (try clear hi))); try go_wp2_with (first | (go_at_call 60; (with_reducible refine (copyholdref01_TakeText.calls kj6 (x13_6.extract 8 x13_6.size) 4096 t141 t142 t143 _ A25.out).mono ?_); rintro e w30 ⟨rfl, hb⟩; have n0_ := zqj (blk_below (g := gb135) (o := .cells #[.slice A0_0 l0_0.length c0_0, .slice A0_1 l0_1.length c0_1, .bool a0_2] 25 (0, 0)) (by (with_reducible repeat (first | refine zqa ?_ _ | refine zqb ?_ | refine zqc ?_ _)); exact BK135.out) hb); have n1_ := zqj (blk_below (g := gb136) (o := .cells #[.int .i64 a1_0, .int .i64 a1_1] 27 (0, 0)) (by (with_reducible repeat (first | refine zqa ?_ _ | refine zqb ?_ | refine zqc ?_ _)); exact BK136.out) hb); have n2_ := zqj (below_step (by repeat (first | (with_reducible first | exact HB.out | apply zqg | apply zqe | apply zqf | refine zqd ?_ GE135.out | refine zqd ?_ GE136.out) | exact HB.out)) hb); clear BK135; clear BK136; clear HB; have BK135 := n0_; have BK136 := n1_; have HB := n2_; clear n0_ n1_ n2_; (try clear hb); (try clear hb2); (try clear hk); (try clear hi)) | (go_at_call 20; (with_reducible refine (copyholdref05_Record.calls kj6 a4 t141 t144 _ A27.out).mono ?_); rintro e w31 ⟨rfl, hb⟩; have n0_ := zqj (blk_below (g := gb135) (o := .cells #[.slice A0_0 l0_0.length c0_0, .slice A0_1 l0_1.length c0_1, .bool a0_2] 25 (0, 0)) (by (with_reducible repeat (first | refine zqa ?_ _ | refine zqb ?_ | refine zqc ?_ _)); exact BK135.out) hb); have n1_ := zqj (blk_below (g := gb136) (o := .cells #[.int .i64 a1_0, .int .i64 a1_1] 27 (0, 0)) (by (with_reducible repeat (first | refine zqa ?_ _ | refine zqb ?_ | refine zqc ?_ _)); exact BK136.out) hb); have n2_ := zqj (below_step (by repeat (first | (with_reducible first | exact HB.out | apply zqg | apply zqe | apply zqf | refine zqd ?_ GE135.out | refine zqd ?_ GE136.out) | exact HB.out)) hb); clear BK135; clear BK136; clear HB; have BK135 := n0_; have BK136 := n1_; have HB := n2_; clear n0_ n1_ n2_; (try clear hb); (try clear hb2); (try clear hk); (try clear hi)) | (go_at_call 21; (with_reducible refine (copyholdref05_Need.calls kj6 t141 t145 _ A28.out).mono ?_); rintro e w32 ⟨rfl, hb⟩; have n0_ := zqj (blk_below (g := gb135) (o := .cells #[.slice A0_0 l0_0.length c0_0, .slice A0_1 l0_1.length c0_1, .bool a0_2] 25 (0, 0)) (by (with_reducible repeat (first | refine zqa ?_ _ | refine zqb ?_ | refine zqc ?_ _)); exact BK135.out) hb); have n1_ := zqj (blk_below (g := gb136) (o := .cells #[.int .i64 a1_0, .int .i64 a1_1] 27 (0, 0)) (by (with_reducible repeat (first | refine zqa ?_ _ | refine zqb ?_ | refine zqc ?_ _)); exact BK136.out) hb); have n2_ := zqj (below_step (by repeat (first | (with_reducible first | exact HB.out | apply zqg | apply zqe | apply zqf | refine zqd ?_ GE135.out | refine zqd ?_ GE136.out) | exact HB.out)) hb); clear BK135; clear BK136; clear HB; have BK135 := n0_; have BK136 := n1_; have HB := n2_; clear n0_ n1_ n2_; (try clear hb); (try clear hb2); (try clear hk); (try clear hi))))
       go_ret2
       exact ⟨by first | rfl | (simp [errW_none, errW_some] <;> rfl) | (simp [*, errW_none, errW_some] <;> rfl), by repeat (first | (with_reducible first | exact HB.out | apply zqg | apply zqe | apply zqf | refine zqd ?_ GE135.out | refine zqd ?_ GE136.out) | exact HB.out)⟩
      ·rw [if_neg c29] at H
       have c29b0 : decide (a3 < t145) = false := decide_eq_false c29
       clear c29
       have H' := zqj H
       clear H
       go_wp2_with (first | (go_at_call 60; (with_reducible refine (copyholdref01_TakeText.calls kj6 (x13_6.extract 8 x13_6.size) 4096 t141 t142 t143 _ A25.out).mono ?_); rintro e w33 ⟨rfl, hb⟩; have n0_ := zqj (blk_below (g := gb135) (o := .cells #[.slice A0_0 l0_0.length c0_0, .slice A0_1 l0_1.length c0_1, .bool a0_2] 25 (0, 0)) (by (with_reducible repeat (first | refine zqa ?_ _ | refine zqb ?_ | refine zqc ?_ _)); exact BK135.out) hb); have n1_ := zqj (blk_below (g := gb136) (o := .cells #[.int .i64 a1_0, .int .i64 a1_1] 27 (0, 0)) (by (with_reducible repeat (first | refine zqa ?_ _ | refine zqb ?_ | refine zqc ?_ _)); exact BK136.out) hb); have n2_ := zqj (below_step (by repeat (first | (with_reducible first | exact HB.out | apply zqg | apply zqe | apply zqf | refine zqd ?_ GE135.out | refine zqd ?_ GE136.out) | exact HB.out)) hb); clear BK135; clear BK136; clear HB; have BK135 := n0_; have BK136 := n1_; have HB := n2_; clear n0_ n1_ n2_; (try clear hb); (try clear hb2); (try clear hk); (try clear hi)) | (go_at_call 20; (with_reducible refine (copyholdref05_Record.calls kj6 a4 t141 t144 _ A27.out).mono ?_); rintro e w34 ⟨rfl, hb⟩; have n0_ := zqj (blk_below (g := gb135) (o := .cells #[.slice A0_0 l0_0.length c0_0, .slice A0_1 l0_1.length c0_1, .bool a0_2] 25 (0, 0)) (by (with_reducible repeat (first | refine zqa ?_ _ | refine zqb ?_ | refine zqc ?_ _)); exact BK135.out) hb); have n1_ := zqj (blk_below (g := gb136) (o := .cells #[.int .i64 a1_0, .int .i64 a1_1] 27 (0, 0)) (by (with_reducible repeat (first | refine zqa ?_ _ | refine zqb ?_ | refine zqc ?_ _)); exact BK136.out) hb); have n2_ := zqj (below_step (by repeat (first | (with_reducible first | exact HB.out | apply zqg | apply zqe | apply zqf | refine zqd ?_ GE135.out | refine zqd ?_ GE136.out) | exact HB.out)) hb); clear BK135; clear BK136; clear HB; have BK135 := n0_; have BK136 := n1_; have HB := n2_; clear n0_ n1_ n2_; (try clear hb); (try clear hb2); (try clear hk); (try clear hi)) | (go_at_call 21; (with_reducible refine (copyholdref05_Need.calls kj6 t141 t145 _ A28.out).mono ?_); rintro e w35 ⟨rfl, hb⟩; have n0_ := zqj (blk_below (g := gb135) (o := .cells #[.slice A0_0 l0_0.length c0_0, .slice A0_1 l0_1.length c0_1, .bool a0_2] 25 (0, 0)) (by (with_reducible repeat (first | refine zqa ?_ _ | refine zqb ?_ | refine zqc ?_ _)); exact BK135.out) hb); have n1_ := zqj (blk_below (g := gb136) (o := .cells #[.int .i64 a1_0, .int .i64 a1_1] 27 (0, 0)) (by (with_reducible repeat (first | refine zqa ?_ _ | refine zqb ?_ | refine zqc ?_ _)); exact BK136.out) hb); have n2_ := zqj (below_step (by repeat (first | (with_reducible first | exact HB.out | apply zqg | apply zqe | apply zqf | refine zqd ?_ GE135.out | refine zqd ?_ GE136.out) | exact HB.out)) hb); clear BK135; clear BK136; clear HB; have BK135 := n0_; have BK136 := n1_; have HB := n2_; clear n0_ n1_ n2_; (try clear hb); (try clear hb2); (try clear hk); (try clear hi)))
       repeat (go_quiet (first | (go_at_call 60; (with_reducible refine (copyholdref01_TakeText.calls kj6 (x13_6.extract 8 x13_6.size) 4096 t141 t142 t143 _ A25.out).mono ?_); rintro e w33 ⟨rfl, hb⟩; have n0_ := zqj (blk_below (g := gb135) (o := .cells #[.slice A0_0 l0_0.length c0_0, .slice A0_1 l0_1.length c0_1, .bool a0_2] 25 (0, 0)) (by (with_reducible repeat (first | refine zqa ?_ _ | refine zqb ?_ | refine zqc ?_ _)); exact BK135.out) hb); have n1_ := zqj (blk_below (g := gb136) (o := .cells #[.int .i64 a1_0, .int .i64 a1_1] 27 (0, 0)) (by (with_reducible repeat (first | refine zqa ?_ _ | refine zqb ?_ | refine zqc ?_ _)); exact BK136.out) hb); have n2_ := zqj (below_step (by repeat (first | (with_reducible first | exact HB.out | apply zqg | apply zqe | apply zqf | refine zqd ?_ GE135.out | refine zqd ?_ GE136.out) | exact HB.out)) hb); clear BK135; clear BK136; clear HB; have BK135 := n0_; have BK136 := n1_; have HB := n2_; clear n0_ n1_ n2_; (try clear hb); (try clear hb2); (try clear hk); (try clear hi)) | (go_at_call 20; (with_reducible refine (copyholdref05_Record.calls kj6 a4 t141 t144 _ A27.out).mono ?_); rintro e w34 ⟨rfl, hb⟩; have n0_ := zqj (blk_below (g := gb135) (o := .cells #[.slice A0_0 l0_0.length c0_0, .slice A0_1 l0_1.length c0_1, .bool a0_2] 25 (0, 0)) (by (with_reducible repeat (first | refine zqa ?_ _ | refine zqb ?_ | refine zqc ?_ _)); exact BK135.out) hb); have n1_ := zqj (blk_below (g := gb136) (o := .cells #[.int .i64 a1_0, .int .i64 a1_1] 27 (0, 0)) (by (with_reducible repeat (first | refine zqa ?_ _ | refine zqb ?_ | refine zqc ?_ _)); exact BK136.out) hb); have n2_ := zqj (below_step (by repeat (first | (with_reducible first | exact HB.out | apply zqg | apply zqe | apply zqf | refine zqd ?_ GE135.out | refine zqd ?_ GE136.out) | exact HB.out)) hb); clear BK135; clear BK136; clear HB; have BK135 := n0_; have BK136 := n1_; have HB := n2_; clear n0_ n1_ n2_; (try clear hb); (try clear hb2); (try clear hk); (try clear hi)) | (go_at_call 21; (with_reducible refine (copyholdref05_Need.calls kj6 t141 t145 _ A28.out).mono ?_); rintro e w35 ⟨rfl, hb⟩; have n0_ := zqj (blk_below (g := gb135) (o := .cells #[.slice A0_0 l0_0.length c0_0, .slice A0_1 l0_1.length c0_1, .bool a0_2] 25 (0, 0)) (by (with_reducible repeat (first | refine zqa ?_ _ | refine zqb ?_ | refine zqc ?_ _)); exact BK135.out) hb); have n1_ := zqj (blk_below (g := gb136) (o := .cells #[.int .i64 a1_0, .int .i64 a1_1] 27 (0, 0)) (by (with_reducible repeat (first | refine zqa ?_ _ | refine zqb ?_ | refine zqc ?_ _)); exact BK136.out) hb); have n2_ := zqj (below_step (by repeat (first | (with_reducible first | exact HB.out | apply zqg | apply zqe | apply zqf | refine zqd ?_ GE135.out | refine zqd ?_ GE136.out) | exact HB.out)) hb); clear BK135; clear BK136; clear HB; have BK135 := n0_; have BK136 := n1_; have HB := n2_; clear n0_ n1_ n2_; (try clear hb); (try clear hb2); (try clear hk); (try clear hi))); try go_wp2_with (first | (go_at_call 60; (with_reducible refine (copyholdref01_TakeText.calls kj6 (x13_6.extract 8 x13_6.size) 4096 t141 t142 t143 _ A25.out).mono ?_); rintro e w33 ⟨rfl, hb⟩; have n0_ := zqj (blk_below (g := gb135) (o := .cells #[.slice A0_0 l0_0.length c0_0, .slice A0_1 l0_1.length c0_1, .bool a0_2] 25 (0, 0)) (by (with_reducible repeat (first | refine zqa ?_ _ | refine zqb ?_ | refine zqc ?_ _)); exact BK135.out) hb); have n1_ := zqj (blk_below (g := gb136) (o := .cells #[.int .i64 a1_0, .int .i64 a1_1] 27 (0, 0)) (by (with_reducible repeat (first | refine zqa ?_ _ | refine zqb ?_ | refine zqc ?_ _)); exact BK136.out) hb); have n2_ := zqj (below_step (by repeat (first | (with_reducible first | exact HB.out | apply zqg | apply zqe | apply zqf | refine zqd ?_ GE135.out | refine zqd ?_ GE136.out) | exact HB.out)) hb); clear BK135; clear BK136; clear HB; have BK135 := n0_; have BK136 := n1_; have HB := n2_; clear n0_ n1_ n2_; (try clear hb); (try clear hb2); (try clear hk); (try clear hi)) | (go_at_call 20; (with_reducible refine (copyholdref05_Record.calls kj6 a4 t141 t144 _ A27.out).mono ?_); rintro e w34 ⟨rfl, hb⟩; have n0_ := zqj (blk_below (g := gb135) (o := .cells #[.slice A0_0 l0_0.length c0_0, .slice A0_1 l0_1.length c0_1, .bool a0_2] 25 (0, 0)) (by (with_reducible repeat (first | refine zqa ?_ _ | refine zqb ?_ | refine zqc ?_ _)); exact BK135.out) hb); have n1_ := zqj (blk_below (g := gb136) (o := .cells #[.int .i64 a1_0, .int .i64 a1_1] 27 (0, 0)) (by (with_reducible repeat (first | refine zqa ?_ _ | refine zqb ?_ | refine zqc ?_ _)); exact BK136.out) hb); have n2_ := zqj (below_step (by repeat (first | (with_reducible first | exact HB.out | apply zqg | apply zqe | apply zqf | refine zqd ?_ GE135.out | refine zqd ?_ GE136.out) | exact HB.out)) hb); clear BK135; clear BK136; clear HB; have BK135 := n0_; have BK136 := n1_; have HB := n2_; clear n0_ n1_ n2_; (try clear hb); (try clear hb2); (try clear hk); (try clear hi)) | (go_at_call 21; (with_reducible refine (copyholdref05_Need.calls kj6 t141 t145 _ A28.out).mono ?_); rintro e w35 ⟨rfl, hb⟩; have n0_ := zqj (blk_below (g := gb135) (o := .cells #[.slice A0_0 l0_0.length c0_0, .slice A0_1 l0_1.length c0_1, .bool a0_2] 25 (0, 0)) (by (with_reducible repeat (first | refine zqa ?_ _ | refine zqb ?_ | refine zqc ?_ _)); exact BK135.out) hb); have n1_ := zqj (blk_below (g := gb136) (o := .cells #[.int .i64 a1_0, .int .i64 a1_1] 27 (0, 0)) (by (with_reducible repeat (first | refine zqa ?_ _ | refine zqb ?_ | refine zqc ?_ _)); exact BK136.out) hb); have n2_ := zqj (below_step (by repeat (first | (with_reducible first | exact HB.out | apply zqg | apply zqe | apply zqf | refine zqd ?_ GE135.out | refine zqd ?_ GE136.out) | exact HB.out)) hb); clear BK135; clear BK136; clear HB; have BK135 := n0_; have BK136 := n1_; have HB := n2_; clear n0_ n1_ n2_; (try clear hb); (try clear hb2); (try clear hk); (try clear hi))))
       go_loopg [18] kj6 (fun kq v18 w' => ∃ (x18_2 : ByteArray), v18 = .string x18_2 ∧ Aside0 (copyholdref05_stands.l1 kq x13_6 t141 x18_2 t145 = some (r1, r2)) ∧ Aside0 (kq ≤ kj6) ∧ Aside0 (w'.heap[gb135]? = some (.cells #[(.slice A0_0 l0_0.length c0_0), (.slice A0_1 l0_1.length c0_1), .bool a0_2] 25 (0, 0))) ∧ Aside0 (w'.heap[gb136]? = some (.cells #[.int .i64 a1_0, .int .i64 a1_1] 27 (0, 0))) ∧ Aside0 (Below w.heap.size w w'))
       case atStart => exact ⟨(t144), (by first | rfl | (simp; done) | (simp [*]; done)), H', ⟨Nat.le_refl _⟩, ⟨by (with_reducible repeat (first | refine zqa ?_ _ | refine zqb ?_ | refine zqc ?_ _)); exact BK135.out⟩, ⟨by (with_reducible repeat (first | refine zqa ?_ _ | refine zqb ?_ | refine zqc ?_ _)); exact BK136.out⟩, ⟨by repeat (first | (with_reducible first | exact HB.out | apply zqg | apply zqe | apply zqf | refine zqd ?_ GE135.out | refine zqd ?_ GE136.out) | exact HB.out)⟩⟩
       case round =>
        clear H'
        ((try clear c1); (try clear p1); (try clear q1); (try clear hx1); (try clear c2); (try clear p2); (try clear c4); (try clear p6); (try clear c10); (try clear c13); (try clear c13b0); (try clear c14); (try clear c14b0); (try clear p14); (try clear q14); (try clear hx14); (try clear c15); (try clear c15b0); (try clear c15b1); (try clear c17); (try clear c17b0); (try clear c18); (try clear c18b0); (try clear c19); (try clear c19b0); (try clear c19b1); (try clear c19b2); (try clear c20); (try clear c23); (try clear c23b0); (try clear c23b1); (try clear c24); (try clear c24b0); (try clear c24b1); (try clear c26); (try clear c26b0); (try clear c26b1); (try clear c29); (try clear c29b0); (try clear hcz11_0); (try clear hcz11_1); (try clear hcz11_2); (try clear hcz21_0); (try clear hcz21_1); (try clear hfz11_0); (try clear hfz11_1); (try clear hfz11_2); (try clear hfz21_0); (try clear hfz21_1); (try clear hx140_0); (try clear p1); (try clear p14); (try clear p140); (try clear p2); (try clear p6); (try clear q1); (try clear q14); (try clear q140))
        obtain ⟨x18_2, rfl, HA, HK2, BK135, BK136, HB⟩ := hrel
        cases gk with
        | zero => exact absurd HA.out (by simp [copyholdref05_stands.l1])
        | succ k2 =>
         (have H := HA.out; clear HA)
         simp only [copyholdref05_stands.l1] at H
         by_cases c36 : (x18_2.size : Int) < (wrap64 (64 * t145))
         ·rw [if_pos c36] at H
          have c36b0 : decide ((x18_2.size : Int) < (wrap64 (64 * t145))) = true := decide_eq_true c36
          clear c36
          by_cases c37 : x18_2.size + 1 ≤ 9223372036854775807
          ·rw [if_pos c37] at H
           have c37b0 := eq_true c37
           have c37b1 : decide (x18_2.size + 1 ≤ 9223372036854775807) = true := decide_eq_true c37
           try have c37b2 : (9223372036854775807 < x18_2.size + 1) = False := eq_false (Nat.not_lt.2 c37)
           have H' := zqj H
           clear H
           go_wp2
           repeat (go_quiet (fail); try go_wp2)
           go_roundg k2
           case measure => have := HJ6.out; have := HK2.out; omega
           case rel => exact ⟨(x18_2 ++ (⟨#[0]⟩ : ByteArray)), (by first | rfl | (simp; done) | (simp [*]; done)), H', ⟨by have := HJ6.out; have := HK2.out; omega⟩, ⟨by (with_reducible repeat (first | refine zqa ?_ _ | refine zqb ?_ | refine zqc ?_ _)); exact BK135.out⟩, ⟨by (with_reducible repeat (first | refine zqa ?_ _ | refine zqb ?_ | refine zqc ?_ _)); exact BK136.out⟩, ⟨by repeat (first | (with_reducible first | exact HB.out | apply zqg | apply zqe | apply zqf | refine zqd ?_ GE135.out | refine zqd ?_ GE136.out) | exact HB.out)⟩⟩
          ·rw [if_neg c37] at H
           exact absurd H (by simp)
         ·rw [if_neg c36] at H
          have c36b0 : decide ((x18_2.size : Int) < (wrap64 (64 * t145))) = false := decide_eq_false c36
          clear c36
          obtain ⟨ji38, hji38⟩ : ∃ j_ : Int, (wrap64 (64 * t145)) = j_ := ⟨_, rfl⟩
          replace H : (if 0 ≤ (ji38) then (if (ji38) ≤ (x13_6.size : Int) then (if (x13_6.extract 0 ((ji38) : Int).toNat).toList = x18_2.toList then (some (t141, t145)) else (some ((⟨#[]⟩ : ByteArray), 0))) else (none)) else (none)) = some (r1, r2) := by first | (rw [hji38] at H; exact H) | (simp only [hji38] at H ⊢; exact H)
          (try rw [hji38] at c36b0)
          have hji38w : (IntKind.i64.wrap (64 * t145)) = ji38 := (i64_w _).trans hji38
          by_cases c39 : 0 ≤ (ji38)
          ·rw [if_pos c39] at H
           have c39b0 := eq_true c39
           have c39b1 : decide (0 ≤ (ji38)) = true := decide_eq_true c39
           clear c39
           by_cases c40 : (ji38) ≤ (x13_6.size : Int)
           ·rw [if_pos c40] at H
            have c40b0 := eq_true c40
            have c40b1 : decide ((ji38) ≤ (x13_6.size : Int)) = true := decide_eq_true c40
            clear c40
            by_cases c41 : (x13_6.extract 0 ((ji38) : Int).toNat).toList = x18_2.toList
            ·rw [if_pos c41] at H
             have c41b0 : ((x13_6.extract 0 ((ji38) : Int).toNat).toList == x18_2.toList) = true := beq_iff_eq.mpr c41
             have c41b1 : ((x13_6.extract 0 ((ji38) : Int).toNat).toList != x18_2.toList) = false := bne_eq_false_iff_eq.mpr c41
             clear c41
             simp only [Option.some.injEq, Prod.mk.injEq] at H
             obtain ⟨rfl, rfl⟩ := H
             go_wp2
             repeat (go_quiet (fail); try go_wp2)
             go_ret2
             exact ⟨by first | rfl | (simp [errW_none, errW_some] <;> rfl) | (simp only [← hji38]; first | rfl | (simp [errW_none, errW_some] <;> rfl)) | (simp [*, errW_none, errW_some] <;> rfl), by repeat (first | (with_reducible first | exact HB.out | apply zqg | apply zqe | apply zqf | refine zqd ?_ GE135.out | refine zqd ?_ GE136.out) | exact HB.out)⟩
            ·rw [if_neg c41] at H
             have c41b0 : ((x13_6.extract 0 ((ji38) : Int).toNat).toList == x18_2.toList) = false := beq_eq_false_iff_ne.mpr c41
             have c41b1 : ((x13_6.extract 0 ((ji38) : Int).toNat).toList != x18_2.toList) = true := bne_iff_ne.mpr c41
             simp only [Option.some.injEq, Prod.mk.injEq] at H
             obtain ⟨rfl, rfl⟩ := H
             go_wp2
             repeat (go_quiet (fail); try go_wp2)
             go_ret2
             exact ⟨by first | rfl | (simp [errW_none, errW_some] <;> rfl) | (simp only [← hji38]; first | rfl | (simp [errW_none, errW_some] <;> rfl)) | (simp [*, errW_none, errW_some] <;> rfl), by repeat (first | (with_reducible first | exact HB.out | apply zqg | apply zqe | apply zqf | refine zqd ?_ GE135.out | refine zqd ?_ GE136.out) | exact HB.out)⟩
           ·rw [if_neg c40] at H
            exact absurd H (by simp)
          ·rw [if_neg c39] at H
           exact absurd H (by simp)
     ·rw [if_neg c26] at H
      have c26b0 : (t143 == 0) = false := beq_eq_false_iff_ne.mpr c26
      have c26b1 : (t143 != 0) = true := bne_iff_ne.mpr c26
      simp only [Option.some.injEq, Prod.mk.injEq] at H
      obtain ⟨rfl, rfl⟩ := H
      go_wp2_with (first | (go_at_call 60; (with_reducible refine (copyholdref01_TakeText.calls kj6 (x13_6.extract 8 x13_6.size) 4096 t141 t142 t143 _ A25.out).mono ?_); rintro e w42 ⟨rfl, hb⟩; have n0_ := zqj (blk_below (g := gb135) (o := .cells #[.slice A0_0 l0_0.length c0_0, .slice A0_1 l0_1.length c0_1, .bool a0_2] 25 (0, 0)) (by (with_reducible repeat (first | refine zqa ?_ _ | refine zqb ?_ | refine zqc ?_ _)); exact BK135.out) hb); have n1_ := zqj (blk_below (g := gb136) (o := .cells #[.int .i64 a1_0, .int .i64 a1_1] 27 (0, 0)) (by (with_reducible repeat (first | refine zqa ?_ _ | refine zqb ?_ | refine zqc ?_ _)); exact BK136.out) hb); have n2_ := zqj (below_step (by repeat (first | (with_reducible first | exact HB.out | apply zqg | apply zqe | apply zqf | refine zqd ?_ GE135.out | refine zqd ?_ GE136.out) | exact HB.out)) hb); clear BK135; clear BK136; clear HB; have BK135 := n0_; have BK136 := n1_; have HB := n2_; clear n0_ n1_ n2_; (try clear hb); (try clear hb2); (try clear hk); (try clear hi)))
      repeat (go_quiet (first | (go_at_call 60; (with_reducible refine (copyholdref01_TakeText.calls kj6 (x13_6.extract 8 x13_6.size) 4096 t141 t142 t143 _ A25.out).mono ?_); rintro e w42 ⟨rfl, hb⟩; have n0_ := zqj (blk_below (g := gb135) (o := .cells #[.slice A0_0 l0_0.length c0_0, .slice A0_1 l0_1.length c0_1, .bool a0_2] 25 (0, 0)) (by (with_reducible repeat (first | refine zqa ?_ _ | refine zqb ?_ | refine zqc ?_ _)); exact BK135.out) hb); have n1_ := zqj (blk_below (g := gb136) (o := .cells #[.int .i64 a1_0, .int .i64 a1_1] 27 (0, 0)) (by (with_reducible repeat (first | refine zqa ?_ _ | refine zqb ?_ | refine zqc ?_ _)); exact BK136.out) hb); have n2_ := zqj (below_step (by repeat (first | (with_reducible first | exact HB.out | apply zqg | apply zqe | apply zqf | refine zqd ?_ GE135.out | refine zqd ?_ GE136.out) | exact HB.out)) hb); clear BK135; clear BK136; clear HB; have BK135 := n0_; have BK136 := n1_; have HB := n2_; clear n0_ n1_ n2_; (try clear hb); (try clear hb2); (try clear hk); (try clear hi))); try go_wp2_with (first | (go_at_call 60; (with_reducible refine (copyholdref01_TakeText.calls kj6 (x13_6.extract 8 x13_6.size) 4096 t141 t142 t143 _ A25.out).mono ?_); rintro e w42 ⟨rfl, hb⟩; have n0_ := zqj (blk_below (g := gb135) (o := .cells #[.slice A0_0 l0_0.length c0_0, .slice A0_1 l0_1.length c0_1, .bool a0_2] 25 (0, 0)) (by (with_reducible repeat (first | refine zqa ?_ _ | refine zqb ?_ | refine zqc ?_ _)); exact BK135.out) hb); have n1_ := zqj (blk_below (g := gb136) (o := .cells #[.int .i64 a1_0, .int .i64 a1_1] 27 (0, 0)) (by (with_reducible repeat (first | refine zqa ?_ _ | refine zqb ?_ | refine zqc ?_ _)); exact BK136.out) hb); have n2_ := zqj (below_step (by repeat (first | (with_reducible first | exact HB.out | apply zqg | apply zqe | apply zqf | refine zqd ?_ GE135.out | refine zqd ?_ GE136.out) | exact HB.out)) hb); clear BK135; clear BK136; clear HB; have BK135 := n0_; have BK136 := n1_; have HB := n2_; clear n0_ n1_ n2_; (try clear hb); (try clear hb2); (try clear hk); (try clear hi))))
      go_ret2
      exact ⟨by first | rfl | (simp [errW_none, errW_some] <;> rfl) | (simp [*, errW_none, errW_some] <;> rfl), by repeat (first | (with_reducible first | exact HB.out | apply zqg | apply zqe | apply zqf | refine zqd ?_ GE135.out | refine zqd ?_ GE136.out) | exact HB.out)⟩
    ·rw [if_neg c24] at H
     exact absurd H (by simp)
end Go.Proofs.Ytcbfnfggnocndaa.X
