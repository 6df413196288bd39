import Derived.Test.YtgnmhbkialgeaaaZWireTakes23
import Derived.Test.YtgnmhbkialgeaaaZWireTakes24
import Derived.Test.YtgnmhbkialgeaaaRows
import Derived.Test.YtgnmhbkialgeaaaZWireTakes0
import Derived.ProofKit
import Derived.SizedLaws
import Derived.Test.YtgnmhbkialgeaaaZWireTakes22
section
/- The machine's side of laws of this seat: Go functions as Lean functions, and the proof that a call of each comes to what its function says (written by a program of this session, px.py, that runs the kit's print). -/
namespace Go.Proofs.Ytgnmhbkialgeaaa.Q
open Go.RowKit Go.Proofs.YtgnmhbkialgeaaaW.PrintWords Go.Proofs.YtgnmhbkialgeaaaW.PrintLast Go.Proofs.YtgnmhbkialgeaaaW.PrintMore
attribute [local go_sem] max2_int min2_int max_two min_two max_three min_three max_four min_four   -- for this text's walks alone
attribute [local go_sem high] Go.Proofs.Ytgnmhbkialgeaaa.px_xor_u8 Go.Proofs.Ytgnmhbkialgeaaa.px_xor_u16 Go.Proofs.Ytgnmhbkialgeaaa.px_xor_u32 Go.Proofs.Ytgnmhbkialgeaaa.px_xor_u64
set_option linter.unusedVariables false
set_option linter.unusedSimpArgs false

set_option hygiene false in
local macro "pxAQ130_" : term => `(#[.int .i64 0, .int .i64 0, .int .i64 0, .int .i64 0, .int .i64 0, .int .i64 0, .int .i64 0, .int .i64 0, .int .i64 0, .string (⟨#[]⟩ : ByteArray), .slice none 0 0])
local macro "pxhQ13_" h:ident w:ident g:ident i:num v:term:max b:ident : tactic => `(tactic| have $h : ($w).cell? ⟨$g, $i, none⟩ = some $v := (blk_cell ($b).out $i).trans rfl)
local macro "pxkQ13_" b:ident i:num : term => `((blk_cell ($b).out $i).trans rfl)
local macro "pxfQ13_" h:ident b:ident i:num : tactic => `(tactic| have $h := blk_frozen ($b).out $i)
set_option hygiene false in
local macro "pxLQ130_" : tactic => `(tactic| (refine bodyPost_ret (results_ct rfl _ _ gb349 37 pxAQ130_ (0, 0) _ rfl (by (with_reducible repeat (first | refine blk_drewN ?_ _ | refine blk_drew ?_ | refine blk_alloc ?_ _)); refine blk_put (cs := pxAQ130_) ?_ 10 _ rfl; (with_reducible repeat (first | refine blk_drewN ?_ _ | refine blk_drew ?_ | refine blk_alloc ?_ _)); refine blk_put (cs := pxAQ130_) ?_ 9 _ rfl; (with_reducible repeat (first | refine blk_drewN ?_ _ | refine blk_drew ?_ | refine blk_alloc ?_ _)); refine blk_put (cs := pxAQ130_) ?_ 8 _ rfl; (with_reducible repeat (first | refine blk_drewN ?_ _ | refine blk_drew ?_ | refine blk_alloc ?_ _)); refine blk_put (cs := pxAQ130_) ?_ 7 _ rfl; (with_reducible repeat (first | refine blk_drewN ?_ _ | refine blk_drew ?_ | refine blk_alloc ?_ _)); refine blk_put (cs := pxAQ130_) ?_ 6 _ rfl; (with_reducible repeat (first | refine blk_drewN ?_ _ | refine blk_drew ?_ | refine blk_alloc ?_ _)); refine blk_put (cs := pxAQ130_) ?_ 5 _ rfl; (with_reducible repeat (first | refine blk_drewN ?_ _ | refine blk_drew ?_ | refine blk_alloc ?_ _)); refine blk_put (cs := pxAQ130_) ?_ 4 _ rfl; (with_reducible repeat (first | refine blk_drewN ?_ _ | refine blk_drew ?_ | refine blk_alloc ?_ _)); refine blk_put (cs := pxAQ130_) ?_ 3 _ rfl; (with_reducible repeat (first | refine blk_drewN ?_ _ | refine blk_drew ?_ | refine blk_alloc ?_ _)); refine blk_put (cs := pxAQ130_) ?_ 2 _ rfl; (with_reducible repeat (first | refine blk_drewN ?_ _ | refine blk_drew ?_ | refine blk_alloc ?_ _)); refine blk_put (cs := pxAQ130_) ?_ 1 _ rfl; (with_reducible repeat (first | refine blk_drewN ?_ _ | refine blk_drew ?_ | refine blk_alloc ?_ _)); refine blk_put (cs := pxAQ130_) ?_ 0 _ rfl; (with_reducible repeat (first | refine blk_drewN ?_ _ | refine blk_drew ?_ | refine blk_alloc ?_ _)); exact BK349.out) Try.underlying37 rfl (by kernel_rfl)) rfl ?_))
set_option hygiene false in
local macro "pxLQ131_" : tactic => `(tactic| (exact ⟨_, by first | rfl | (simp [errW_none, errW_some] <;> rfl) | (simp [*, errW_none, errW_some] <;> rfl), by first | exact Kd.R_nil _ _ _ _ _ | exact Kd.N_nil _ _ _ _ _ | exact Kd.V_nil _ _ _ _ _ | exact Kd.Q_nil _ _ _ _ _ | exact Kd.S_nil _ _ _ _ _, by repeat (first | (with_reducible first | exact HB.out | apply below_alloc | apply pw_below_drewN | apply below_drew1 | refine below_set ?_ GE349.out) | exact HB.out)⟩))
/-! ### copyholdref15_TakeRsp: function 26 -/
def copyholdref15_TakeRsp.f (k : Nat) (a0 : ByteArray) : Option (Int × Int × Int × Int × Int × Int × Int × Int × Int × ByteArray × List ByteArray × Int) := (copyholdref15_begun.f k a0 114).bind fun bt350 => (if bt350.2 = 0 then ((copyholdref15_numbers.f k bt350.1 9).bind fun bt352 => (if bt352.2.2 = 0 then ((copyholdref01_TakeText.f k bt352.2.1 4096).bind fun bt357 => (if bt357.2.2 = 0 then ((copyholdref01_TakeList.f k bt357.2.1 256 32).bind fun bt360 => (if bt360.2.2 = 0 then (if bt360.2.1.toList = ([] : List UInt8) then (if 5 < (bt352.1.length : Int) then (if 6 < (bt352.1.length : Int) then (if 7 < (bt352.1.length : Int) then (if 8 < (bt352.1.length : Int) then (if 0 < (bt352.1.length : Int) then (if 1 < (bt352.1.length : Int) then (if 2 < (bt352.1.length : Int) then (if 3 < (bt352.1.length : Int) then (if 4 < (bt352.1.length : Int) then (some (rd bt352.1 0, rd bt352.1 1, rd bt352.1 2, rd bt352.1 3, rd bt352.1 4, rd bt352.1 5, rd bt352.1 6, rd bt352.1 7, rd bt352.1 8, bt357.1, bt360.1, 0)) else (none)) else (none)) else (none)) else (none)) else (none)) else (none)) else (none)) else (none)) else (none)) else (some (0, 0, 0, 0, 0, 0, 0, 0, 0, (⟨#[]⟩ : ByteArray), ([] : List ByteArray), 3))) else (some (0, 0, 0, 0, 0, 0, 0, 0, 0, (⟨#[]⟩ : ByteArray), ([] : List ByteArray), bt360.2.2)))) else (some (0, 0, 0, 0, 0, 0, 0, 0, 0, (⟨#[]⟩ : ByteArray), ([] : List ByteArray), bt357.2.2)))) else (some (0, 0, 0, 0, 0, 0, 0, 0, 0, (⟨#[]⟩ : ByteArray), ([] : List ByteArray), bt352.2.2)))) else (some (0, 0, 0, 0, 0, 0, 0, 0, 0, (⟨#[]⟩ : ByteArray), ([] : List ByteArray), bt350.2)))
theorem copyholdref15_TakeRsp.mono : ∀ a0 k, LeO (copyholdref15_TakeRsp.f k a0) (copyholdref15_TakeRsp.f (k + 1) a0) := by
  intro a0 k
  unfold copyholdref15_TakeRsp.f
  repeat' first
      | (with_reducible exact copyholdref01_TakeList.mono _ _ _ _)
      | (with_reducible exact copyholdref01_TakeText.mono _ _ _)
      | (with_reducible exact copyholdref15_begun.mono _ _ _)
      | (with_reducible exact copyholdref15_numbers.mono _ _ _)
      | (with_reducible exact LeO.refl _)
      | (with_reducible exact LeO.none _)
      | (with_reducible refine LeO.ite ?_ ?_)
      | (with_reducible refine LeO.bind ?_ (fun _ => ?_))
      | exact copyholdref01_TakeList.mono _ _ _ _
      | exact copyholdref01_TakeText.mono _ _ _
      | exact copyholdref15_begun.mono _ _ _
      | exact copyholdref15_numbers.mono _ _ _
      | exact LeO.none _
      | refine LeO.ite ?_ ?_
      | refine LeO.bind ?_ (fun _ => ?_)
def copyholdref15_TakeRsp.T15 : Bool × List (List Nat × List Nat) := (true, [([], []), ([0], [0]), ([1], [1]), ([], []), ([3], [3]), ([4], [4]), ([], []), ([6], [6]), ([7], [7]), ([], []), ([9], [9]), ([10], [10]), ([], []), ([], []), ([2, 5, 8, 11, 12, 13], [2, 5, 8, 11, 12, 13]), ([], []), ([15, 14, 0, 1, 2, 3, 4, 5, 6, 7, 8, 9, 10, 11, 12, 13, 14, 15], [14, 15])])
def copyholdref15_TakeRsp.B15 : List Nat := [0, 1, 3, 0, 8, 24, 0, 64, 192, 0, 512, 1536, 0, 0, 16383, 0, 65535]
theorem copyholdref15_TakeRsp.tab15 : rtab .any (opsOf Try.f26 15) = copyholdref15_TakeRsp.T15 := by kernel_rfl
theorem copyholdref15_TakeRsp.bits15 : waitsOk copyholdref15_TakeRsp.T15.2 copyholdref15_TakeRsp.B15 = true := by kernel_rfl
def copyholdref15_TakeRsp.T16 : Bool × List (List Nat × List Nat) := (true, [([], []), ([0], [0]), ([1], [1]), ([], []), ([3], [3]), ([4], [4]), ([], []), ([6], [6]), ([7], [7]), ([], []), ([9], [9]), ([10], [10]), ([], []), ([12], [12]), ([13], [13]), ([], []), ([2, 5, 8, 11, 14, 15], [2, 5, 8, 11, 14, 15]), ([16, 0, 1, 2, 3, 4, 5, 6, 7, 8, 9, 10, 11, 12, 13, 14, 15, 16], [16]), ([17, 0, 1, 2, 3, 4, 5, 6, 7, 8, 9, 10, 11, 12, 13, 14, 15, 16, 17], [])])
def copyholdref15_TakeRsp.B16 : List Nat := [0, 1, 3, 0, 8, 24, 0, 64, 192, 0, 512, 1536, 0, 4096, 12288, 0, 65535, 131071, 262143]
theorem copyholdref15_TakeRsp.tab16 : rtab .any (opsOf Try.f26 16) = copyholdref15_TakeRsp.T16 := by kernel_rfl
theorem copyholdref15_TakeRsp.bits16 : waitsOk copyholdref15_TakeRsp.T16.2 copyholdref15_TakeRsp.B16 = true := by kernel_rfl
set_option maxHeartbeats 8000000 in
set_option maxRecDepth 100000 in
theorem copyholdref15_TakeRsp.calls (k : Nat) (a0 : ByteArray) (r1 : Int) (r2 : Int) (r3 : Int) (r4 : Int) (r5 : Int) (r6 : Int) (r7 : Int) (r8 : Int) (r9 : Int) (r10 : ByteArray) (r11 : List ByteArray) (r12 : Int) (w : World) (h : copyholdref15_TakeRsp.f k a0 = some (r1, r2, r3, r4, r5, r6, r7, r8, r9, r10, r11, r12)) :
    Calls Try.prog 26 #[.string a0] w fun e w' => ∃ v10_ : Value, e = .returned (.tuple #[.agg #[.int .i64 r1, .int .i64 r2, .int .i64 r3, .int .i64 r4, .int .i64 r5, .int .i64 r6, .int .i64 r7, .int .i64 r8, .int .i64 r9, .string r10, v10_], .int .i64 r12]) ∧ Kd.R Kd.string 9 w' w.heap.size (fun _ => True) v10_ r11 ∧ Below w.heap.size w w' := by
  have hu37 := Try.underlying37
  have hu35 := Try.underlying35
  have HB := Aside0.mk (Below.refl w.heap.size w)
  have H : ((copyholdref15_begun.f k a0 114).bind fun bt350 => (if bt350.2 = 0 then ((copyholdref15_numbers.f k bt350.1 9).bind fun bt352 => (if bt352.2.2 = 0 then ((copyholdref01_TakeText.f k bt352.2.1 4096).bind fun bt357 => (if bt357.2.2 = 0 then ((copyholdref01_TakeList.f k bt357.2.1 256 32).bind fun bt360 => (if bt360.2.2 = 0 then (if bt360.2.1.toList = ([] : List UInt8) then (if 5 < (bt352.1.length : Int) then (if 6 < (bt352.1.length : Int) then (if 7 < (bt352.1.length : Int) then (if 8 < (bt352.1.length : Int) then (if 0 < (bt352.1.length : Int) then (if 1 < (bt352.1.length : Int) then (if 2 < (bt352.1.length : Int) then (if 3 < (bt352.1.length : Int) then (if 4 < (bt352.1.length : Int) then (some (rd bt352.1 0, rd bt352.1 1, rd bt352.1 2, rd bt352.1 3, rd bt352.1 4, rd bt352.1 5, rd bt352.1 6, rd bt352.1 7, rd bt352.1 8, bt357.1, bt360.1, 0)) else (none)) else (none)) else (none)) else (none)) else (none)) else (none)) else (none)) else (none)) else (none)) else (some (0, 0, 0, 0, 0, 0, 0, 0, 0, (⟨#[]⟩ : ByteArray), ([] : List ByteArray), 3))) else (some (0, 0, 0, 0, 0, 0, 0, 0, 0, (⟨#[]⟩ : ByteArray), ([] : List ByteArray), bt360.2.2)))) else (some (0, 0, 0, 0, 0, 0, 0, 0, 0, (⟨#[]⟩ : ByteArray), ([] : List ByteArray), bt357.2.2)))) else (some (0, 0, 0, 0, 0, 0, 0, 0, 0, (⟨#[]⟩ : ByteArray), ([] : List ByteArray), bt352.2.2)))) else (some (0, 0, 0, 0, 0, 0, 0, 0, 0, (⟨#[]⟩ : ByteArray), ([] : List ByteArray), bt350.2)))) = some (r1, r2, r3, r4, r5, r6, r7, r8, r9, r10, r11, r12) := h
  clear h
  replace H := Option.bind_eq_some_iff.mp H
  obtain ⟨⟨t350, t351⟩, A20, H⟩ := H
  replace H : (if t351 = 0 then ((copyholdref15_numbers.f k t350 9).bind fun bt352 => (if bt352.2.2 = 0 then ((copyholdref01_TakeText.f k bt352.2.1 4096).bind fun bt357 => (if bt357.2.2 = 0 then ((copyholdref01_TakeList.f k bt357.2.1 256 32).bind fun bt360 => (if bt360.2.2 = 0 then (if bt360.2.1.toList = ([] : List UInt8) then (if 5 < (bt352.1.length : Int) then (if 6 < (bt352.1.length : Int) then (if 7 < (bt352.1.length : Int) then (if 8 < (bt352.1.length : Int) then (if 0 < (bt352.1.length : Int) then (if 1 < (bt352.1.length : Int) then (if 2 < (bt352.1.length : Int) then (if 3 < (bt352.1.length : Int) then (if 4 < (bt352.1.length : Int) then (some (rd bt352.1 0, rd bt352.1 1, rd bt352.1 2, rd bt352.1 3, rd bt352.1 4, rd bt352.1 5, rd bt352.1 6, rd bt352.1 7, rd bt352.1 8, bt357.1, bt360.1, 0)) else (none)) else (none)) else (none)) else (none)) else (none)) else (none)) else (none)) else (none)) else (none)) else (some (0, 0, 0, 0, 0, 0, 0, 0, 0, (⟨#[]⟩ : ByteArray), ([] : List ByteArray), 3))) else (some (0, 0, 0, 0, 0, 0, 0, 0, 0, (⟨#[]⟩ : ByteArray), ([] : List ByteArray), bt360.2.2)))) else (some (0, 0, 0, 0, 0, 0, 0, 0, 0, (⟨#[]⟩ : ByteArray), ([] : List ByteArray), bt357.2.2)))) else (some (0, 0, 0, 0, 0, 0, 0, 0, 0, (⟨#[]⟩ : ByteArray), ([] : List ByteArray), bt352.2.2)))) else (some (0, 0, 0, 0, 0, 0, 0, 0, 0, (⟨#[]⟩ : ByteArray), ([] : List ByteArray), t351))) = some (r1, r2, r3, r4, r5, r6, r7, r8, r9, r10, r11, r12) := H
  have A2 := Aside0.mk A20
  clear A20
  by_cases c3 : t351 = 0
  · rw [if_pos c3] at H
    have c3b0 : (t351 == 0) = true := beq_iff_eq.mpr c3
    have c3b1 : (t351 != 0) = false := bne_eq_false_iff_eq.mpr c3
    clear c3
    replace H := Option.bind_eq_some_iff.mp H
    obtain ⟨⟨t352, t353, t354⟩, A40, H⟩ := H
    replace H : (if t354 = 0 then ((copyholdref01_TakeText.f k t353 4096).bind fun bt357 => (if bt357.2.2 = 0 then ((copyholdref01_TakeList.f k bt357.2.1 256 32).bind fun bt360 => (if bt360.2.2 = 0 then (if bt360.2.1.toList = ([] : List UInt8) then (if 5 < (t352.length : Int) then (if 6 < (t352.length : Int) then (if 7 < (t352.length : Int) then (if 8 < (t352.length : Int) then (if 0 < (t352.length : Int) then (if 1 < (t352.length : Int) then (if 2 < (t352.length : Int) then (if 3 < (t352.length : Int) then (if 4 < (t352.length : Int) then (some (rd t352 0, rd t352 1, rd t352 2, rd t352 3, rd t352 4, rd t352 5, rd t352 6, rd t352 7, rd t352 8, bt357.1, bt360.1, 0)) else (none)) else (none)) else (none)) else (none)) else (none)) else (none)) else (none)) else (none)) else (none)) else (some (0, 0, 0, 0, 0, 0, 0, 0, 0, (⟨#[]⟩ : ByteArray), ([] : List ByteArray), 3))) else (some (0, 0, 0, 0, 0, 0, 0, 0, 0, (⟨#[]⟩ : ByteArray), ([] : List ByteArray), bt360.2.2)))) else (some (0, 0, 0, 0, 0, 0, 0, 0, 0, (⟨#[]⟩ : ByteArray), ([] : List ByteArray), bt357.2.2)))) else (some (0, 0, 0, 0, 0, 0, 0, 0, 0, (⟨#[]⟩ : ByteArray), ([] : List ByteArray), t354))) = some (r1, r2, r3, r4, r5, r6, r7, r8, r9, r10, r11, r12) := H
    have A4 := Aside0.mk A40
    clear A40
    by_cases c5 : t354 = 0
    · rw [if_pos c5] at H
      have c5b0 : (t354 == 0) = true := beq_iff_eq.mpr c5
      have c5b1 : (t354 != 0) = false := bne_eq_false_iff_eq.mpr c5
      clear c5
      replace H := Option.bind_eq_some_iff.mp H
      obtain ⟨⟨t357, t358, t359⟩, A60, H⟩ := H
      replace H : (if t359 = 0 then ((copyholdref01_TakeList.f k t358 256 32).bind fun bt360 => (if bt360.2.2 = 0 then (if bt360.2.1.toList = ([] : List UInt8) then (if 5 < (t352.length : Int) then (if 6 < (t352.length : Int) then (if 7 < (t352.length : Int) then (if 8 < (t352.length : Int) then (if 0 < (t352.length : Int) then (if 1 < (t352.length : Int) then (if 2 < (t352.length : Int) then (if 3 < (t352.length : Int) then (if 4 < (t352.length : Int) then (some (rd t352 0, rd t352 1, rd t352 2, rd t352 3, rd t352 4, rd t352 5, rd t352 6, rd t352 7, rd t352 8, t357, bt360.1, 0)) else (none)) else (none)) else (none)) else (none)) else (none)) else (none)) else (none)) else (none)) else (none)) else (some (0, 0, 0, 0, 0, 0, 0, 0, 0, (⟨#[]⟩ : ByteArray), ([] : List ByteArray), 3))) else (some (0, 0, 0, 0, 0, 0, 0, 0, 0, (⟨#[]⟩ : ByteArray), ([] : List ByteArray), bt360.2.2)))) else (some (0, 0, 0, 0, 0, 0, 0, 0, 0, (⟨#[]⟩ : ByteArray), ([] : List ByteArray), t359))) = some (r1, r2, r3, r4, r5, r6, r7, r8, r9, r10, r11, r12) := H
      have A6 := Aside0.mk A60
      clear A60
      by_cases c7 : t359 = 0
      · rw [if_pos c7] at H
        have c7b0 : (t359 == 0) = true := beq_iff_eq.mpr c7
        have c7b1 : (t359 != 0) = false := bne_eq_false_iff_eq.mpr c7
        clear c7
        replace H := Option.bind_eq_some_iff.mp H
        obtain ⟨⟨t360, t361, t362⟩, A80, H⟩ := H
        replace H : (if t362 = 0 then (if t361.toList = ([] : List UInt8) then (if 5 < (t352.length : Int) then (if 6 < (t352.length : Int) then (if 7 < (t352.length : Int) then (if 8 < (t352.length : Int) then (if 0 < (t352.length : Int) then (if 1 < (t352.length : Int) then (if 2 < (t352.length : Int) then (if 3 < (t352.length : Int) then (if 4 < (t352.length : Int) then (some (rd t352 0, rd t352 1, rd t352 2, rd t352 3, rd t352 4, rd t352 5, rd t352 6, rd t352 7, rd t352 8, t357, t360, 0)) else (none)) else (none)) else (none)) else (none)) else (none)) else (none)) else (none)) else (none)) else (none)) else (some (0, 0, 0, 0, 0, 0, 0, 0, 0, (⟨#[]⟩ : ByteArray), ([] : List ByteArray), 3))) else (some (0, 0, 0, 0, 0, 0, 0, 0, 0, (⟨#[]⟩ : ByteArray), ([] : List ByteArray), t362))) = some (r1, r2, r3, r4, r5, r6, r7, r8, r9, r10, r11, r12) := H
        have A8 := Aside0.mk A80
        clear A80
        by_cases c9 : t362 = 0
        · rw [if_pos c9] at H
          have c9b0 : (t362 == 0) = true := beq_iff_eq.mpr c9
          have c9b1 : (t362 != 0) = false := bne_eq_false_iff_eq.mpr c9
          clear c9
          by_cases c10 : t361.toList = ([] : List UInt8)
          · rw [if_pos c10] at H
            have c10b0 : (t361.toList == ([] : List UInt8)) = true := beq_iff_eq.mpr c10
            have c10b1 : (t361.toList != ([] : List UInt8)) = false := bne_eq_false_iff_eq.mpr c10
            clear c10
            by_cases c11 : 5 < (t352.length : Int)
            · rw [if_pos c11] at H
              have c11b0 : decide (5 < (t352.length : Int)) = true := decide_eq_true c11
              have c11b1 : decide (5 < t352.length) = true := decide_eq_true (by omega)
              clear c11
              by_cases c12 : 6 < (t352.length : Int)
              · rw [if_pos c12] at H
                have c12b0 : decide (6 < (t352.length : Int)) = true := decide_eq_true c12
                have c12b1 : decide (6 < t352.length) = true := decide_eq_true (by omega)
                clear c12
                by_cases c13 : 7 < (t352.length : Int)
                · rw [if_pos c13] at H
                  have c13b0 : decide (7 < (t352.length : Int)) = true := decide_eq_true c13
                  have c13b1 : decide (7 < t352.length) = true := decide_eq_true (by omega)
                  clear c13
                  by_cases c14 : 8 < (t352.length : Int)
                  · rw [if_pos c14] at H
                    have c14b0 : decide (8 < (t352.length : Int)) = true := decide_eq_true c14
                    have c14b1 : decide (8 < t352.length) = true := decide_eq_true (by omega)
                    clear c14
                    by_cases c15 : 0 < (t352.length : Int)
                    · rw [if_pos c15] at H
                      have c15b0 : decide (0 < (t352.length : Int)) = true := decide_eq_true c15
                      have c15b1 : decide (0 < t352.length) = true := decide_eq_true (by omega)
                      clear c15
                      by_cases c16 : 1 < (t352.length : Int)
                      · rw [if_pos c16] at H
                        have c16b0 : decide (1 < (t352.length : Int)) = true := decide_eq_true c16
                        have c16b1 : decide (1 < t352.length) = true := decide_eq_true (by omega)
                        clear c16
                        by_cases c17 : 2 < (t352.length : Int)
                        · rw [if_pos c17] at H
                          have c17b0 : decide (2 < (t352.length : Int)) = true := decide_eq_true c17
                          have c17b1 : decide (2 < t352.length) = true := decide_eq_true (by omega)
                          clear c17
                          by_cases c18 : 3 < (t352.length : Int)
                          · rw [if_pos c18] at H
                            have c18b0 : decide (3 < (t352.length : Int)) = true := decide_eq_true c18
                            have c18b1 : decide (3 < t352.length) = true := decide_eq_true (by omega)
                            clear c18
                            by_cases c19 : 4 < (t352.length : Int)
                            · rw [if_pos c19] at H
                              have c19b0 : decide (4 < (t352.length : Int)) = true := decide_eq_true c19
                              have c19b1 : decide (4 < t352.length) = true := decide_eq_true (by omega)
                              clear c19
                              simp only [Option.some.injEq, Prod.mk.injEq] at H
                              obtain ⟨rfl, rfl, rfl, rfl, rfl, rfl, rfl, rfl, rfl, rfl, rfl, rfl⟩ := H
                              go_enter Try.func26, Try.ntmps26
                              try go_wp2_with (first | ((with_reducible refine gate_dst (N := 2) rfl ?_); refine box_event ?hg (N := 2) ?hd (cs := pxAQ130_) (t := 37) ?hr ?_; (case hd => rfl); (case hg => rfl); (case hr => first | (go_simp; done) | (go_simp; rfl)); intro gb349 hg w20 hbox hb; have n0_ := Aside0.mk (below_step (by repeat (first | (with_reducible first | exact HB.out | apply below_alloc | apply pw_below_drewN | apply below_drew1) | exact HB.out)) hb); have n1_ := Aside0.mk (hbox); have n2_ := Aside0.mk ((by rw [hg]; exact (below_size (by repeat (first | (with_reducible first | exact HB.out | apply below_alloc | apply pw_below_drewN | apply below_drew1) | exact HB.out))) : w.heap.size ≤ gb349)); have n3_ := Aside0.mk ((by rw [hg]; exact (below_size (by repeat (first | (with_reducible first | exact HB.out | apply below_alloc | apply pw_below_drewN | apply below_drew1) | exact HB.out))) : w.heap.size ≤ gb349)); clear HB; have HB := n0_; have BK349 := n1_; have GW349 := n2_; have GE349 := n3_; clear n0_ n1_ n2_ n3_; clear hb hbox hg) | ((with_reducible refine gate_callee (f := 43) rfl ?_); refine goesL_ (some 15) rfl rfl Try.func43 (by kernel_rfl) rfl #[.string a0, .int .u8 114] rfl (by (try simp only [List.map_toArray, List.map_cons, List.map_nil]); first | done | rfl | (simp only [List.length_drop, List.length_take]; rfl)) ?_; (with_reducible refine (copyholdref15_begun.calls k a0 114 t350 t351 _ A2.out).mono ?_); rintro e w21 ⟨rfl, hb⟩; refine ⟨_, rfl, ?_⟩; have n0_ := Aside0.mk (blk_below (g := gb349) (o := .cells pxAQ130_ 37 (0, 0)) (by (with_reducible repeat (first | refine blk_drewN ?_ _ | refine blk_drew ?_ | refine blk_alloc ?_ _)); exact BK349.out) hb); have n1_ := Aside0.mk (below_step (by repeat (first | (with_reducible first | exact HB.out | apply below_alloc | apply pw_below_drewN | apply below_drew1 | refine below_set ?_ GE349.out) | exact HB.out)) hb); clear BK349; clear HB; have BK349 := n0_; have HB := n1_; clear n0_ n1_; (try clear hb); (try clear hb2); (try clear hk); (try clear hi)) | ((with_reducible refine gate_callee (f := 38) rfl ?_); refine goesL_ (some 24) rfl rfl Try.func38 (by kernel_rfl) rfl #[.string t350, .int .i64 9] rfl (by (try simp only [List.map_toArray, List.map_cons, List.map_nil]); first | done | rfl | (simp only [List.length_drop, List.length_take]; rfl)) ?_; (with_reducible refine (copyholdref15_numbers.calls k t350 9 t352 t353 t354 _ A4.out).mono ?_); rintro e w22 ⟨v355, rfl, ho0, hb⟩; refine ⟨_, rfl, ?_⟩; have n0_ := Aside0.mk (Kd.R_lower ho0 (below_size (by repeat (first | (with_reducible first | exact HB.out | apply below_alloc | apply pw_below_drewN | apply below_drew1 | refine below_set ?_ GE349.out) | exact HB.out)))); have n1_ := Aside0.mk (blk_below (g := gb349) (o := .cells pxAQ130_ 37 (0, 0)) (by (with_reducible repeat (first | refine blk_drewN ?_ _ | refine blk_drew ?_ | refine blk_alloc ?_ _)); exact BK349.out) hb); have n2_ := Aside0.mk (below_step (by repeat (first | (with_reducible first | exact HB.out | apply below_alloc | apply pw_below_drewN | apply below_drew1 | refine below_set ?_ GE349.out) | exact HB.out)) hb); clear BK349; clear HB; have HO356 := n0_; have BK349 := n1_; have HB := n2_; clear n0_ n1_ n2_; (try clear hb); (try clear hb2); (try clear hk); (try clear hi); (try clear ho0)) | ((with_reducible refine gate_callee (f := 39) rfl ?_); refine goesL_ (some 34) rfl rfl Try.func39 (by kernel_rfl) rfl #[.string t353, .int .i64 4096] rfl (by (try simp only [List.map_toArray, List.map_cons, List.map_nil]); first | done | rfl | (simp only [List.length_drop, List.length_take]; rfl)) ?_; (with_reducible refine (copyholdref01_TakeText.calls k t353 4096 t357 t358 t359 _ A6.out).mono ?_); rintro e w23 ⟨rfl, hb⟩; refine ⟨_, rfl, ?_⟩; have n0_ := Aside0.mk (Kd.R_below (by (with_reducible repeat (first | apply Kd.R_alloc | apply Kd.R_drewN | apply Kd.R_drew)); exact HO356.out) hb); have n1_ := Aside0.mk (blk_below (g := gb349) (o := .cells pxAQ130_ 37 (0, 0)) (by (with_reducible repeat (first | refine blk_drewN ?_ _ | refine blk_drew ?_ | refine blk_alloc ?_ _)); exact BK349.out) hb); have n2_ := Aside0.mk (below_step (by repeat (first | (with_reducible first | exact HB.out | apply below_alloc | apply pw_below_drewN | apply below_drew1 | refine below_set ?_ GE349.out) | exact HB.out)) hb); clear HO356; clear BK349; clear HB; have HO356 := n0_; have BK349 := n1_; have HB := n2_; clear n0_ n1_ n2_; (try clear hb); (try clear hb2); (try clear hk); (try clear hi)) | ((with_reducible refine gate_callee (f := 47) rfl ?_); refine goesL_ (some 44) rfl rfl Try.func47 (by kernel_rfl) rfl #[.string t358, .int .i64 256, .int .i64 32] rfl (by (try simp only [List.map_toArray, List.map_cons, List.map_nil]); first | done | rfl | (simp only [List.length_drop, List.length_take]; rfl)) ?_; (with_reducible refine (copyholdref01_TakeList.calls k t358 256 32 t360 t361 t362 _ A8.out).mono ?_); rintro e w24 ⟨v363, rfl, ho0, hb⟩; refine ⟨_, rfl, ?_⟩; have n0_ := Aside0.mk (Kd.R_below (by (with_reducible repeat (first | apply Kd.R_alloc | apply Kd.R_drewN | apply Kd.R_drew)); exact HO356.out) hb); have n1_ := Aside0.mk (Kd.R_lower ho0 (below_size (by repeat (first | (with_reducible first | exact HB.out | apply below_alloc | apply pw_below_drewN | apply below_drew1 | refine below_set ?_ GE349.out) | exact HB.out)))); have n2_ := Aside0.mk (blk_below (g := gb349) (o := .cells pxAQ130_ 37 (0, 0)) (by (with_reducible repeat (first | refine blk_drewN ?_ _ | refine blk_drew ?_ | refine blk_alloc ?_ _)); exact BK349.out) hb); have n3_ := Aside0.mk (below_step (by repeat (first | (with_reducible first | exact HB.out | apply below_alloc | apply pw_below_drewN | apply below_drew1 | refine below_set ?_ GE349.out) | exact HB.out)) hb); clear HO356; clear BK349; clear HB; have HO356 := n0_; have HO364 := n1_; have BK349 := n2_; have HB := n3_; clear n0_ n1_ n2_ n3_; (try clear hb); (try clear hb2); (try clear hk); (try clear hi); (try clear ho0)))
                              have n0_ := Aside0.mk (Kd.R_drew HO356.out)
                              have n1_ := Aside0.mk (Kd.R_drew HO364.out)
                              have n2_ := Aside0.mk (blk_drew BK349.out)
                              have n3_ := Aside0.mk (below_drew1 HB.out)
                              (clear HO356; clear HO364; clear BK349; clear HB; have HO356 := n0_; have HO364 := n1_; have BK349 := n2_; have HB := n3_; clear n0_ n1_ n2_ n3_)
                              obtain ⟨Ao26, co26, eo26⟩ := Kd.R_slice HO356.out
                              (first | subst eo26 | (injection eo26 with f1_ f2_ f3_; have f4_ := f1_.symm; have f5_ := f3_.symm; clear f1_ f2_ f3_; subst f4_; subst f5_))
                              have p365 : 0 ≤ (5 : Int) := (by omega)
                              have q365 : 5 < (t352.length : Int) := of_decide_eq_true (by first | (with_reducible assumption) | assumption)
                              obtain ⟨ad365, e365, hx365_0⟩ := Kd.at_int (Kd.R_reads' HO356.out).2.2 5 p365 q365
                              cases e365
                              (try simp only [show (5 : Int).toNat = 5 from rfl, Nat.reduceMul, Nat.reduceEqDiff, Go.Addr.add, ↓reduceIte] at hx365_0)
                              have qi365 : (5 < t352.length) = True := eq_true (by omega)
                              (try rw [show ((5 : Int)).toNat = 5 from rfl] at hx365_0)
                              replace p365 := eq_true p365
                              replace q365 := eq_true q365
                              have p366 : 0 ≤ (6 : Int) := (by omega)
                              have q366 : 6 < (t352.length : Int) := of_decide_eq_true (by first | (with_reducible assumption) | assumption)
                              obtain ⟨ad366, e366, hx366_0⟩ := Kd.at_int (Kd.R_reads' HO356.out).2.2 6 p366 q366
                              obtain rfl : ad365 = ad366 := (by injection e366)
                              (try simp only [show (6 : Int).toNat = 6 from rfl, Nat.reduceMul, Nat.reduceEqDiff, Go.Addr.add, ↓reduceIte] at hx366_0)
                              have qi366 : (6 < t352.length) = True := eq_true (by omega)
                              (try rw [show ((6 : Int)).toNat = 6 from rfl] at hx366_0)
                              replace p366 := eq_true p366
                              replace q366 := eq_true q366
                              have p367 : 0 ≤ (7 : Int) := (by omega)
                              have q367 : 7 < (t352.length : Int) := of_decide_eq_true (by first | (with_reducible assumption) | assumption)
                              obtain ⟨ad367, e367, hx367_0⟩ := Kd.at_int (Kd.R_reads' HO356.out).2.2 7 p367 q367
                              obtain rfl : ad365 = ad367 := (by injection e367)
                              (try simp only [show (7 : Int).toNat = 7 from rfl, Nat.reduceMul, Nat.reduceEqDiff, Go.Addr.add, ↓reduceIte] at hx367_0)
                              have qi367 : (7 < t352.length) = True := eq_true (by omega)
                              (try rw [show ((7 : Int)).toNat = 7 from rfl] at hx367_0)
                              replace p367 := eq_true p367
                              replace q367 := eq_true q367
                              have p368 : 0 ≤ (8 : Int) := (by omega)
                              have q368 : 8 < (t352.length : Int) := of_decide_eq_true (by first | (with_reducible assumption) | assumption)
                              obtain ⟨ad368, e368, hx368_0⟩ := Kd.at_int (Kd.R_reads' HO356.out).2.2 8 p368 q368
                              obtain rfl : ad365 = ad368 := (by injection e368)
                              (try simp only [show (8 : Int).toNat = 8 from rfl, Nat.reduceMul, Nat.reduceEqDiff, Go.Addr.add, ↓reduceIte] at hx368_0)
                              have qi368 : (8 < t352.length) = True := eq_true (by omega)
                              (try rw [show ((8 : Int)).toNat = 8 from rfl] at hx368_0)
                              replace p368 := eq_true p368
                              replace q368 := eq_true q368
                              obtain ⟨Ao27, co27, eo27⟩ := Kd.R_slice HO364.out
                              (first | subst eo27 | (injection eo27 with f1_ f2_ f3_; have f4_ := f1_.symm; have f5_ := f3_.symm; clear f1_ f2_ f3_; subst f4_; subst f5_))
                              refine start_ (n := 17) (S := fun w' => w'.cell? ⟨ad365.block, ad365.off + 5, none⟩ = some (.int .i64 (rd t352 5)) ∧ w'.cell? ⟨ad365.block, ad365.off + 6, none⟩ = some (.int .i64 (rd t352 6)) ∧ w'.cell? ⟨ad365.block, ad365.off + 7, none⟩ = some (.int .i64 (rd t352 7)) ∧ w'.cell? ⟨ad365.block, ad365.off + 8, none⟩ = some (.int .i64 (rd t352 8))) (ds := []) #[false, false, false, false, false, false, false, false, false, false, false, false, false, false, false, false, false] (by kernel_rfl) rfl rfl ⟨hx365_0, hx366_0, hx367_0, hx368_0⟩ (fun hHeld => ?_); refine with_tabW copyholdref15_TakeRsp.tab15 copyholdref15_TakeRsp.bits15 (fun HT_ HW_ => ?_)
                              generalize w24.drew = w25 at HO356 HO364 BK349 HB hx365_0 hx366_0 hx367_0 hx368_0 hHeld ⊢
                              refine pure_ (i := 0) (N := some 55) (v := ?_) (a' := ?_) #[true, false, false, false, false, false, false, false, false, false, false, false, false, false, false, false, false] rfl rfl (any_of HT_.out (by kernel_rfl)) (fun _ _ _ h => h) (Or.inl ⟨by rfl, ?_⟩) ?_ ?_
                              rotate_left
                              · intro w'
                                go_simp
                                with_reducible rfl
                              rotate_left
                              · simp only [Act.put, List.setIfInBounds_toArray, List.set_cons_zero, List.set_cons_succ, i64_w, i32_w]
                                rfl
                              refine pure_ (i := 1) (N := some 56) (v := ?_) (a' := ?_) #[true, true, false, false, false, false, false, false, false, false, false, false, false, false, false, false, false] rfl rfl (any_of HT_.out (by kernel_rfl)) (fun _ _ _ h => h) (Or.inl ⟨by rfl, ?_⟩) ?_ ?_
                              rotate_left
                              · intro w'
                                go_simp
                                with_reducible rfl
                              rotate_left
                              · simp only [Act.put, List.setIfInBounds_toArray, List.set_cons_zero, List.set_cons_succ, i64_w, i32_w]
                                rfl
                              refine pure_ (i := 3) (N := some 58) (v := ?_) (a' := ?_) #[true, true, false, true, false, false, false, false, false, false, false, false, false, false, false, false, false] rfl rfl (any_of HT_.out (by kernel_rfl)) (fun _ _ _ h => h) (Or.inl ⟨by rfl, ?_⟩) ?_ ?_
                              rotate_left
                              · intro w'
                                go_simp
                                with_reducible rfl
                              rotate_left
                              · simp only [Act.put, List.setIfInBounds_toArray, List.set_cons_zero, List.set_cons_succ, i64_w, i32_w]
                                rfl
                              refine pure_ (i := 4) (N := some 59) (v := ?_) (a' := ?_) #[true, true, false, true, true, false, false, false, false, false, false, false, false, false, false, false, false] rfl rfl (any_of HT_.out (by kernel_rfl)) (fun _ _ _ h => h) (Or.inl ⟨by rfl, ?_⟩) ?_ ?_
                              rotate_left
                              · intro w'
                                go_simp
                                with_reducible rfl
                              rotate_left
                              · simp only [Act.put, List.setIfInBounds_toArray, List.set_cons_zero, List.set_cons_succ, i64_w, i32_w]
                                rfl
                              refine pure_ (i := 6) (N := some 61) (v := ?_) (a' := ?_) #[true, true, false, true, true, false, true, false, false, false, false, false, false, false, false, false, false] rfl rfl (any_of HT_.out (by kernel_rfl)) (fun _ _ _ h => h) (Or.inl ⟨by rfl, ?_⟩) ?_ ?_
                              rotate_left
                              · intro w'
                                go_simp
                                with_reducible rfl
                              rotate_left
                              · simp only [Act.put, List.setIfInBounds_toArray, List.set_cons_zero, List.set_cons_succ, i64_w, i32_w]
                                rfl
                              refine pure_ (i := 7) (N := some 62) (v := ?_) (a' := ?_) #[true, true, false, true, true, false, true, true, false, false, false, false, false, false, false, false, false] rfl rfl (any_of HT_.out (by kernel_rfl)) (fun _ _ _ h => h) (Or.inl ⟨by rfl, ?_⟩) ?_ ?_
                              rotate_left
                              · intro w'
                                go_simp
                                with_reducible rfl
                              rotate_left
                              · simp only [Act.put, List.setIfInBounds_toArray, List.set_cons_zero, List.set_cons_succ, i64_w, i32_w]
                                rfl
                              refine pure_ (i := 9) (N := some 64) (v := ?_) (a' := ?_) #[true, true, false, true, true, false, true, true, false, true, false, false, false, false, false, false, false] rfl rfl (any_of HT_.out (by kernel_rfl)) (fun _ _ _ h => h) (Or.inl ⟨by rfl, ?_⟩) ?_ ?_
                              rotate_left
                              · intro w'
                                go_simp
                                with_reducible rfl
                              rotate_left
                              · simp only [Act.put, List.setIfInBounds_toArray, List.set_cons_zero, List.set_cons_succ, i64_w, i32_w]
                                rfl
                              refine pure_ (i := 10) (N := some 65) (v := ?_) (a' := ?_) #[true, true, false, true, true, false, true, true, false, true, true, false, false, false, false, false, false] rfl rfl (any_of HT_.out (by kernel_rfl)) (fun _ _ _ h => h) (Or.inl ⟨by rfl, ?_⟩) ?_ ?_
                              rotate_left
                              · intro w'
                                go_simp
                                with_reducible rfl
                              rotate_left
                              · simp only [Act.put, List.setIfInBounds_toArray, List.set_cons_zero, List.set_cons_succ, i64_w, i32_w]
                                rfl
                              refine pure_ (i := 12) (N := some 67) (v := ?_) (a' := ?_) #[true, true, false, true, true, false, true, true, false, true, true, false, true, false, false, false, false] rfl rfl (any_of HT_.out (by kernel_rfl)) (fun _ _ _ h => h) (Or.inl ⟨by rfl, ?_⟩) ?_ ?_
                              rotate_left
                              · intro w'
                                go_simp
                                with_reducible rfl
                              rotate_left
                              · simp only [Act.put, List.setIfInBounds_toArray, List.set_cons_zero, List.set_cons_succ, i64_w, i32_w]
                                rfl
                              refine pure_ (i := 13) (N := some 68) (v := ?_) (a' := ?_) #[true, true, false, true, true, false, true, true, false, true, true, false, true, true, false, false, false] rfl rfl (any_of HT_.out (by kernel_rfl)) (fun _ _ _ h => h) (Or.inl ⟨by rfl, ?_⟩) ?_ ?_
                              rotate_left
                              · intro w'
                                go_simp
                                with_reducible rfl
                              rotate_left
                              · simp only [Act.put, List.setIfInBounds_toArray, List.set_cons_zero, List.set_cons_succ, i64_w, i32_w]
                                rfl
                              refine take_ (i := 2) (N := some 57) (v := ?_) (a' := ?_) #[true, true, true, true, true, false, true, true, false, true, true, false, true, true, false, false, false] rfl rfl (take_ofW HT_.out HW_.out (by kernel_rfl)) (fun _ _ _ h => h) (Or.inl ⟨by rfl, ?_⟩) hHeld ?_ ?_
                              rotate_left
                              · rintro w' ⟨s0, s1, s2, s3⟩
                                go_simp
                                with_reducible rfl
                              rotate_left
                              · simp only [Act.put, List.setIfInBounds_toArray, List.set_cons_zero, List.set_cons_succ, i64_w, i32_w]
                                rfl
                              refine take_ (i := 5) (N := some 60) (v := ?_) (a' := ?_) #[true, true, true, true, true, true, true, true, false, true, true, false, true, true, false, false, false] rfl rfl (take_ofW HT_.out HW_.out (by kernel_rfl)) (fun _ _ _ h => h) (Or.inl ⟨by rfl, ?_⟩) hHeld ?_ ?_
                              rotate_left
                              · rintro w' ⟨s0, s1, s2, s3⟩
                                go_simp
                                with_reducible rfl
                              rotate_left
                              · simp only [Act.put, List.setIfInBounds_toArray, List.set_cons_zero, List.set_cons_succ, i64_w, i32_w]
                                rfl
                              refine take_ (i := 8) (N := some 63) (v := ?_) (a' := ?_) #[true, true, true, true, true, true, true, true, true, true, true, false, true, true, false, false, false] rfl rfl (take_ofW HT_.out HW_.out (by kernel_rfl)) (fun _ _ _ h => h) (Or.inl ⟨by rfl, ?_⟩) hHeld ?_ ?_
                              rotate_left
                              · rintro w' ⟨s0, s1, s2, s3⟩
                                go_simp
                                with_reducible rfl
                              rotate_left
                              · simp only [Act.put, List.setIfInBounds_toArray, List.set_cons_zero, List.set_cons_succ, i64_w, i32_w]
                                rfl
                              refine take_ (i := 11) (N := some 66) (v := ?_) (a' := ?_) #[true, true, true, true, true, true, true, true, true, true, true, true, true, true, false, false, false] rfl rfl (take_ofW HT_.out HW_.out (by kernel_rfl)) (fun _ _ _ h => h) (Or.inl ⟨by rfl, ?_⟩) hHeld ?_ ?_
                              rotate_left
                              · rintro w' ⟨s0, s1, s2, s3⟩
                                go_simp
                                with_reducible rfl
                              rotate_left
                              · simp only [Act.put, List.setIfInBounds_toArray, List.set_cons_zero, List.set_cons_succ, i64_w, i32_w]
                                rfl
                              refine pure_ (i := 14) (N := some 69) (v := ?_) (a' := ?_) #[true, true, true, true, true, true, true, true, true, true, true, true, true, true, true, false, false] rfl rfl (any_of HT_.out (by kernel_rfl)) (fun _ _ _ h => h) (Or.inl ⟨by rfl, ?_⟩) ?_ ?_
                              rotate_left
                              · intro w'
                                go_simp
                                with_reducible rfl
                              rotate_left
                              · simp only [Act.put, List.setIfInBounds_toArray, List.set_cons_zero, List.set_cons_succ, i64_w, i32_w]
                                rfl
                              refine one_ (i := 15) (N := some 12) #[true, true, true, true, true, true, true, true, true, true, true, true, true, true, true, true, false] rfl rfl (one_of HT_.out (by kernel_rfl)) (by decide) (fun K hK => ?_)
                              refine box_step ?hg (N := 12) ?hd (cs := #[.int .i64 0, .int .i64 0, .int .i64 0, .int .i64 0, .string (⟨#[]⟩ : ByteArray), .slice none 0 0]) (t := 35) ?hr ?_; (case hd => rfl); (case hg => rfl); (case hr => first | (go_simp; done) | (go_simp; rfl))
                              intro gb369 hg w28 hbox hb
                              have HS0_ := (hb.cell (World.block_lt_of_cell? _ _ (hHeld.1))).trans (hHeld.1)
                              have HS1_ := (hb.cell (World.block_lt_of_cell? _ _ (hHeld.2.1))).trans (hHeld.2.1)
                              have HS2_ := (hb.cell (World.block_lt_of_cell? _ _ (hHeld.2.2.1))).trans (hHeld.2.2.1)
                              have HS3_ := (hb.cell (World.block_lt_of_cell? _ _ (hHeld.2.2.2))).trans (hHeld.2.2.2)
                              have n0_ := Aside0.mk (Kd.R_below (by (with_reducible repeat (first | apply Kd.R_alloc | apply Kd.R_drewN | apply Kd.R_drew)); exact HO356.out) hb)
                              have n1_ := Aside0.mk (Kd.R_below (by (with_reducible repeat (first | apply Kd.R_alloc | apply Kd.R_drewN | apply Kd.R_drew)); exact HO364.out) hb)
                              have n2_ := Aside0.mk (blk_below (g := gb349) (o := .cells pxAQ130_ 37 (0, 0)) (by (with_reducible repeat (first | refine blk_drewN ?_ _ | refine blk_drew ?_ | refine blk_alloc ?_ _)); exact BK349.out) hb)
                              have n3_ := Aside0.mk (below_step (by repeat (first | (with_reducible first | exact HB.out | apply below_alloc | apply pw_below_drewN | apply below_drew1 | refine below_set ?_ GE349.out) | exact HB.out)) hb)
                              have n4_ := Aside0.mk (hbox)
                              have n5_ := Aside0.mk ((by rw [hg]; exact (below_size (by repeat (first | (with_reducible first | exact HB.out | apply below_alloc | apply pw_below_drewN | apply below_drew1 | refine below_set ?_ GE349.out) | exact HB.out))) : w.heap.size ≤ gb369))
                              have n6_ := Aside0.mk ((by rw [hg]; exact (below_size (by repeat (first | (with_reducible first | exact HB.out | apply below_alloc | apply pw_below_drewN | apply below_drew1 | refine below_set ?_ GE349.out) | exact HB.out))) : w.heap.size ≤ gb369))
                              have n7_ := Aside0.mk ((by rw [hg]; exact Nat.ne_of_lt (blk_lt (g := gb349) (o := .cells pxAQ130_ 37 (0, 0)) (by (with_reducible repeat (first | refine blk_drewN ?_ _ | refine blk_drew ?_ | refine blk_alloc ?_ _)); exact BK349.out)) : gb349 ≠ gb369))
                              have n8_ := Aside0.mk ((by rw [hg]; exact Nat.ne_of_gt (blk_lt (g := gb349) (o := .cells pxAQ130_ 37 (0, 0)) (by (with_reducible repeat (first | refine blk_drewN ?_ _ | refine blk_drew ?_ | refine blk_alloc ?_ _)); exact BK349.out)) : gb369 ≠ gb349))
                              (clear HO356; clear HO364; clear BK349; clear HB; have HO356 := n0_; have HO364 := n1_; have BK349 := n2_; have HB := n3_; have BK369 := n4_; have GW369 := n5_; have GE369 := n6_; have NB349_369 := n7_; have NB369_349 := n8_; clear n0_ n1_ n2_ n3_ n4_ n5_ n6_ n7_ n8_; clear hb hbox hg)
                              refine hK.out _ _ ⟨HS0_, HS1_, HS2_, HS3_⟩ (fun hHeld => ?_)
                              clear hK K
                              refine norm_ (a' := ?_) ?_ ?_
                              rotate_left
                              · show Act.put _ (some 12) _ = _
                                simp only [Act.put, List.setIfInBounds_toArray, List.set_cons_zero, List.set_cons_succ, i64_w, i32_w]
                                rfl
                              refine one_ (i := 16) (N := none) #[true, true, true, true, true, true, true, true, true, true, true, true, true, true, true, true, true] rfl rfl (one_of HT_.out (by kernel_rfl)) (by decide) (fun K hK => ?_)
                              (pxhQ13_ hs29 w28 gb369 0 (.int .i64 0) BK369; pxfQ13_ hfs29 BK369 0)
                              have hns29_0 := NB349_369.out
                              have hms29_0 := NB369_349.out
                              (pxhQ13_ hs30 w28 gb369 1 (.int .i64 0) BK369; pxfQ13_ hfs30 BK369 1)
                              have hns30_0 := NB349_369.out
                              have hms30_0 := NB369_349.out
                              (pxhQ13_ hs31 w28 gb369 2 (.int .i64 0) BK369; pxfQ13_ hfs31 BK369 2)
                              have hns31_0 := NB349_369.out
                              have hms31_0 := NB369_349.out
                              (pxhQ13_ hs32 w28 gb369 3 (.int .i64 0) BK369; pxfQ13_ hfs32 BK369 3)
                              have hns32_0 := NB349_369.out
                              have hms32_0 := NB369_349.out
                              (pxhQ13_ hs33 w28 gb369 4 (.string (⟨#[]⟩ : ByteArray)) BK369; pxfQ13_ hfs33 BK369 4)
                              have hns33_0 := NB349_369.out
                              have hms33_0 := NB369_349.out
                              (pxhQ13_ hs34 w28 gb369 5 (.slice none 0 0) BK369; pxfQ13_ hfs34 BK369 5)
                              have hns34_0 := NB349_369.out
                              have hms34_0 := NB369_349.out
                              refine skip_ (w1 := ?_) (by rfl) rfl ?_ ?_
                              rotate_left
                              · go_simp
                                rfl
                              have NE0_ := Kd.own_blk (Kd.R_ne HO356.out BK369.out (by decide))
                              refine hK.out _ _ ⟨(by rw [cell_far NE0_, cell_far NE0_, cell_far NE0_, cell_far NE0_, cell_far NE0_, cell_far NE0_]; exact hHeld.1), (by rw [cell_far NE0_, cell_far NE0_, cell_far NE0_, cell_far NE0_, cell_far NE0_, cell_far NE0_]; exact hHeld.2.1), (by rw [cell_far NE0_, cell_far NE0_, cell_far NE0_, cell_far NE0_, cell_far NE0_, cell_far NE0_]; exact hHeld.2.2.1), (by rw [cell_far NE0_, cell_far NE0_, cell_far NE0_, cell_far NE0_, cell_far NE0_, cell_far NE0_]; exact hHeld.2.2.2)⟩ (fun hHeld => ?_)
                              clear hK K
                              refine done_ (done_of HT_.out (by kernel_rfl)) ?_
                              try go_wp2
                              have n0_ : Aside0 (Kd.R (Kd.int .i64) 3 ((((((w28.setCell ⟨gb369, 0, none⟩ (.int .i64 (rd t352 5))).setCell ⟨gb369, 1, none⟩ (.int .i64 (rd t352 6))).setCell ⟨gb369, 2, none⟩ (.int .i64 (rd t352 7))).setCell ⟨gb369, 3, none⟩ (.int .i64 (rd t352 8))).setCell ⟨gb369, 4, none⟩ (.string t357)).setCell ⟨gb369, 5, none⟩ (.slice Ao27 t360.length co27)) w.heap.size (fun _ => True) (.slice (some ad365) t352.length co26) t352) := ⟨by (with_reducible repeat (first | apply Kd.R_alloc | apply Kd.R_drewN | apply Kd.R_drew)); exact Kd.R_mono (Kd.R_far (p := ⟨gb369, 5, none⟩) (Kd.R_far (p := ⟨gb369, 4, none⟩) (Kd.R_far (p := ⟨gb369, 3, none⟩) (Kd.R_far (p := ⟨gb369, 2, none⟩) (Kd.R_far (p := ⟨gb369, 1, none⟩) (Kd.R_far (p := ⟨gb369, 0, none⟩) (Kd.R_types HO356.out BK369.out (by decide)) (fun _ hk => hk.2) (.int .i64 (rd t352 5))) (fun _ hk => hk.2) (.int .i64 (rd t352 6))) (fun _ hk => hk.2) (.int .i64 (rd t352 7))) (fun _ hk => hk.2) (.int .i64 (rd t352 8))) (fun _ hk => hk.2) (.string t357)) (fun _ hk => hk.2) (.slice Ao27 t360.length co27)) (fun _ hk => trivial)⟩
                              have n1_ : Aside0 (Kd.R Kd.string 9 ((((((w28.setCell ⟨gb369, 0, none⟩ (.int .i64 (rd t352 5))).setCell ⟨gb369, 1, none⟩ (.int .i64 (rd t352 6))).setCell ⟨gb369, 2, none⟩ (.int .i64 (rd t352 7))).setCell ⟨gb369, 3, none⟩ (.int .i64 (rd t352 8))).setCell ⟨gb369, 4, none⟩ (.string t357)).setCell ⟨gb369, 5, none⟩ (.slice Ao27 t360.length co27)) w.heap.size (fun _ => True) (.slice Ao27 t360.length co27) t360) := ⟨by (with_reducible repeat (first | apply Kd.R_alloc | apply Kd.R_drewN | apply Kd.R_drew)); exact Kd.R_mono (Kd.R_far (p := ⟨gb369, 5, none⟩) (Kd.R_far (p := ⟨gb369, 4, none⟩) (Kd.R_far (p := ⟨gb369, 3, none⟩) (Kd.R_far (p := ⟨gb369, 2, none⟩) (Kd.R_far (p := ⟨gb369, 1, none⟩) (Kd.R_far (p := ⟨gb369, 0, none⟩) (Kd.R_types HO364.out BK369.out (by decide)) (fun _ hk => hk.2) (.int .i64 (rd t352 5))) (fun _ hk => hk.2) (.int .i64 (rd t352 6))) (fun _ hk => hk.2) (.int .i64 (rd t352 7))) (fun _ hk => hk.2) (.int .i64 (rd t352 8))) (fun _ hk => hk.2) (.string t357)) (fun _ hk => hk.2) (.slice Ao27 t360.length co27)) (fun _ hk => trivial)⟩
                              have n2_ : Aside0 (((((((w28.setCell ⟨gb369, 0, none⟩ (.int .i64 (rd t352 5))).setCell ⟨gb369, 1, none⟩ (.int .i64 (rd t352 6))).setCell ⟨gb369, 2, none⟩ (.int .i64 (rd t352 7))).setCell ⟨gb369, 3, none⟩ (.int .i64 (rd t352 8))).setCell ⟨gb369, 4, none⟩ (.string t357)).setCell ⟨gb369, 5, none⟩ (.slice Ao27 t360.length co27)).heap[gb349]? = some (.cells pxAQ130_ 37 (0, 0))) := ⟨by (with_reducible repeat (first | refine blk_drewN ?_ _ | refine blk_drew ?_ | refine blk_alloc ?_ _)); refine blk_far ?_ NB349_369.out _; (with_reducible repeat (first | refine blk_drewN ?_ _ | refine blk_drew ?_ | refine blk_alloc ?_ _)); refine blk_far ?_ NB349_369.out _; (with_reducible repeat (first | refine blk_drewN ?_ _ | refine blk_drew ?_ | refine blk_alloc ?_ _)); refine blk_far ?_ NB349_369.out _; (with_reducible repeat (first | refine blk_drewN ?_ _ | refine blk_drew ?_ | refine blk_alloc ?_ _)); refine blk_far ?_ NB349_369.out _; (with_reducible repeat (first | refine blk_drewN ?_ _ | refine blk_drew ?_ | refine blk_alloc ?_ _)); refine blk_far ?_ NB349_369.out _; (with_reducible repeat (first | refine blk_drewN ?_ _ | refine blk_drew ?_ | refine blk_alloc ?_ _)); refine blk_far ?_ NB349_369.out _; (with_reducible repeat (first | refine blk_drewN ?_ _ | refine blk_drew ?_ | refine blk_alloc ?_ _)); exact BK349.out⟩
                              have n3_ : Aside0 (((((((w28.setCell ⟨gb369, 0, none⟩ (.int .i64 (rd t352 5))).setCell ⟨gb369, 1, none⟩ (.int .i64 (rd t352 6))).setCell ⟨gb369, 2, none⟩ (.int .i64 (rd t352 7))).setCell ⟨gb369, 3, none⟩ (.int .i64 (rd t352 8))).setCell ⟨gb369, 4, none⟩ (.string t357)).setCell ⟨gb369, 5, none⟩ (.slice Ao27 t360.length co27)).heap[gb369]? = some (.cells #[.int .i64 (rd t352 5), .int .i64 (rd t352 6), .int .i64 (rd t352 7), .int .i64 (rd t352 8), .string t357, .slice Ao27 t360.length co27] 35 (0, 0))) := ⟨by (with_reducible repeat (first | refine blk_drewN ?_ _ | refine blk_drew ?_ | refine blk_alloc ?_ _)); refine blk_put (cs := #[.int .i64 (rd t352 5), .int .i64 (rd t352 6), .int .i64 (rd t352 7), .int .i64 (rd t352 8), .string t357, .slice none 0 0]) ?_ 5 _ rfl; (with_reducible repeat (first | refine blk_drewN ?_ _ | refine blk_drew ?_ | refine blk_alloc ?_ _)); refine blk_put (cs := #[.int .i64 (rd t352 5), .int .i64 (rd t352 6), .int .i64 (rd t352 7), .int .i64 (rd t352 8), .string (⟨#[]⟩ : ByteArray), .slice none 0 0]) ?_ 4 _ rfl; (with_reducible repeat (first | refine blk_drewN ?_ _ | refine blk_drew ?_ | refine blk_alloc ?_ _)); refine blk_put (cs := #[.int .i64 (rd t352 5), .int .i64 (rd t352 6), .int .i64 (rd t352 7), .int .i64 0, .string (⟨#[]⟩ : ByteArray), .slice none 0 0]) ?_ 3 _ rfl; (with_reducible repeat (first | refine blk_drewN ?_ _ | refine blk_drew ?_ | refine blk_alloc ?_ _)); refine blk_put (cs := #[.int .i64 (rd t352 5), .int .i64 (rd t352 6), .int .i64 0, .int .i64 0, .string (⟨#[]⟩ : ByteArray), .slice none 0 0]) ?_ 2 _ rfl; (with_reducible repeat (first | refine blk_drewN ?_ _ | refine blk_drew ?_ | refine blk_alloc ?_ _)); refine blk_put (cs := #[.int .i64 (rd t352 5), .int .i64 0, .int .i64 0, .int .i64 0, .string (⟨#[]⟩ : ByteArray), .slice none 0 0]) ?_ 1 _ rfl; (with_reducible repeat (first | refine blk_drewN ?_ _ | refine blk_drew ?_ | refine blk_alloc ?_ _)); refine blk_put (cs := #[.int .i64 0, .int .i64 0, .int .i64 0, .int .i64 0, .string (⟨#[]⟩ : ByteArray), .slice none 0 0]) ?_ 0 _ rfl; (with_reducible repeat (first | refine blk_drewN ?_ _ | refine blk_drew ?_ | refine blk_alloc ?_ _)); exact BK369.out⟩
                              have n4_ : Aside0 (Below w.heap.size w ((((((w28.setCell ⟨gb369, 0, none⟩ (.int .i64 (rd t352 5))).setCell ⟨gb369, 1, none⟩ (.int .i64 (rd t352 6))).setCell ⟨gb369, 2, none⟩ (.int .i64 (rd t352 7))).setCell ⟨gb369, 3, none⟩ (.int .i64 (rd t352 8))).setCell ⟨gb369, 4, none⟩ (.string t357)).setCell ⟨gb369, 5, none⟩ (.slice Ao27 t360.length co27))) := ⟨by repeat (first | (with_reducible first | exact HB.out | apply below_alloc | apply pw_below_drewN | apply below_drew1 | refine below_set ?_ GE349.out | refine below_set ?_ GE369.out) | exact HB.out)⟩
                              ((try clear HO356); (try clear HO364); (try clear BK349); (try clear BK369); (try clear HB))
                              generalize ((((((w28.setCell ⟨gb369, 0, none⟩ (.int .i64 (rd t352 5))).setCell ⟨gb369, 1, none⟩ (.int .i64 (rd t352 6))).setCell ⟨gb369, 2, none⟩ (.int .i64 (rd t352 7))).setCell ⟨gb369, 3, none⟩ (.int .i64 (rd t352 8))).setCell ⟨gb369, 4, none⟩ (.string t357)).setCell ⟨gb369, 5, none⟩ (.slice Ao27 t360.length co27)) = w35 at n0_ n1_ n2_ n3_ n4_ ⊢
                              (have HO356 := n0_; have HO364 := n1_; have BK349 := n2_; have BK369 := n3_; have HB := n4_; clear n0_ n1_ n2_ n3_ n4_)
                              have n0_ := Aside0.mk (Kd.R_drew HO356.out)
                              have n1_ := Aside0.mk (Kd.R_drew HO364.out)
                              have n2_ := Aside0.mk (blk_drew BK349.out)
                              have n3_ := Aside0.mk (blk_drew BK369.out)
                              have n4_ := Aside0.mk (below_drew1 HB.out)
                              (clear HO356; clear HO364; clear BK349; clear BK369; clear HB; have HO356 := n0_; have HO364 := n1_; have BK349 := n2_; have BK369 := n3_; have HB := n4_; clear n0_ n1_ n2_ n3_ n4_)
                              have p370 : 0 ≤ (0 : Int) := (by omega)
                              have q370 : 0 < (t352.length : Int) := of_decide_eq_true (by first | (with_reducible assumption) | assumption)
                              obtain ⟨ad370, e370, hx370_0⟩ := Kd.at_int (Kd.R_reads' HO356.out).2.2 0 p370 q370
                              obtain rfl : ad365 = ad370 := (by injection e370)
                              have qi370 : (0 < t352.length) = True := eq_true (by omega)
                              (try rw [show ((0 : Int)).toNat = 0 from rfl] at hx370_0)
                              (try rw [Addr.add_zero'] at hx370_0)
                              replace p370 := eq_true p370
                              replace q370 := eq_true q370
                              have p371 : 0 ≤ (1 : Int) := (by omega)
                              have q371 : 1 < (t352.length : Int) := of_decide_eq_true (by first | (with_reducible assumption) | assumption)
                              obtain ⟨ad371, e371, hx371_0⟩ := Kd.at_int (Kd.R_reads' HO356.out).2.2 1 p371 q371
                              obtain rfl : ad365 = ad371 := (by injection e371)
                              (try simp only [show (1 : Int).toNat = 1 from rfl, Nat.reduceMul, Nat.reduceEqDiff, Go.Addr.add, ↓reduceIte] at hx371_0)
                              have qi371 : (1 < t352.length) = True := eq_true (by omega)
                              (try rw [show ((1 : Int)).toNat = 1 from rfl] at hx371_0)
                              replace p371 := eq_true p371
                              replace q371 := eq_true q371
                              have p372 : 0 ≤ (2 : Int) := (by omega)
                              have q372 : 2 < (t352.length : Int) := of_decide_eq_true (by first | (with_reducible assumption) | assumption)
                              obtain ⟨ad372, e372, hx372_0⟩ := Kd.at_int (Kd.R_reads' HO356.out).2.2 2 p372 q372
                              obtain rfl : ad365 = ad372 := (by injection e372)
                              (try simp only [show (2 : Int).toNat = 2 from rfl, Nat.reduceMul, Nat.reduceEqDiff, Go.Addr.add, ↓reduceIte] at hx372_0)
                              have qi372 : (2 < t352.length) = True := eq_true (by omega)
                              (try rw [show ((2 : Int)).toNat = 2 from rfl] at hx372_0)
                              replace p372 := eq_true p372
                              replace q372 := eq_true q372
                              have p373 : 0 ≤ (3 : Int) := (by omega)
                              have q373 : 3 < (t352.length : Int) := of_decide_eq_true (by first | (with_reducible assumption) | assumption)
                              obtain ⟨ad373, e373, hx373_0⟩ := Kd.at_int (Kd.R_reads' HO356.out).2.2 3 p373 q373
                              obtain rfl : ad365 = ad373 := (by injection e373)
                              (try simp only [show (3 : Int).toNat = 3 from rfl, Nat.reduceMul, Nat.reduceEqDiff, Go.Addr.add, ↓reduceIte] at hx373_0)
                              have qi373 : (3 < t352.length) = True := eq_true (by omega)
                              (try rw [show ((3 : Int)).toNat = 3 from rfl] at hx373_0)
                              replace p373 := eq_true p373
                              replace q373 := eq_true q373
                              have p374 : 0 ≤ (4 : Int) := (by omega)
                              have q374 : 4 < (t352.length : Int) := of_decide_eq_true (by first | (with_reducible assumption) | assumption)
                              obtain ⟨ad374, e374, hx374_0⟩ := Kd.at_int (Kd.R_reads' HO356.out).2.2 4 p374 q374
                              obtain rfl : ad365 = ad374 := (by injection e374)
                              (try simp only [show (4 : Int).toNat = 4 from rfl, Nat.reduceMul, Nat.reduceEqDiff, Go.Addr.add, ↓reduceIte] at hx374_0)
                              have qi374 : (4 < t352.length) = True := eq_true (by omega)
                              (try rw [show ((4 : Int)).toNat = 4 from rfl] at hx374_0)
                              replace p374 := eq_true p374
                              replace q374 := eq_true q374
                              refine start_ (n := 19) (S := fun w' => w'.cell? ⟨gb369, 0, none⟩ = some (.int .i64 (rd t352 5)) ∧ w'.cell? ⟨gb369, 1, none⟩ = some (.int .i64 (rd t352 6)) ∧ w'.cell? ⟨gb369, 2, none⟩ = some (.int .i64 (rd t352 7)) ∧ w'.cell? ⟨gb369, 3, none⟩ = some (.int .i64 (rd t352 8)) ∧ w'.cell? ⟨gb369, 4, none⟩ = some (.string t357) ∧ w'.cell? ⟨gb369, 5, none⟩ = some (.slice Ao27 t360.length co27) ∧ w'.cell? ad365 = some (.int .i64 (rd t352 0)) ∧ w'.cell? ⟨ad365.block, ad365.off + 1, none⟩ = some (.int .i64 (rd t352 1)) ∧ w'.cell? ⟨ad365.block, ad365.off + 2, none⟩ = some (.int .i64 (rd t352 2)) ∧ w'.cell? ⟨ad365.block, ad365.off + 3, none⟩ = some (.int .i64 (rd t352 3)) ∧ w'.cell? ⟨ad365.block, ad365.off + 4, none⟩ = some (.int .i64 (rd t352 4))) (ds := []) #[false, false, false, false, false, false, false, false, false, false, false, false, false, false, false, false, false, false, false] (by kernel_rfl) rfl rfl ⟨pxkQ13_ BK369 0, pxkQ13_ BK369 1, pxkQ13_ BK369 2, pxkQ13_ BK369 3, pxkQ13_ BK369 4, pxkQ13_ BK369 5, hx370_0, hx371_0, hx372_0, hx373_0, hx374_0⟩ (fun hHeld => ?_); refine with_tabW copyholdref15_TakeRsp.tab16 copyholdref15_TakeRsp.bits16 (fun HT_ HW_ => ?_)
                              generalize w35.drew = w36 at HO356 HO364 BK349 BK369 HB hx370_0 hx371_0 hx372_0 hx373_0 hx374_0 hHeld ⊢
                              refine pure_ (i := 0) (N := some 70) (v := ?_) (a' := ?_) #[true, false, false, false, false, false, false, false, false, false, false, false, false, false, false, false, false, false, false] rfl rfl (any_of HT_.out (by kernel_rfl)) (fun _ _ _ h => h) (Or.inl ⟨by rfl, ?_⟩) ?_ ?_
                              rotate_left
                              · intro w'
                                go_simp
                                with_reducible rfl
                              rotate_left
                              · simp only [Act.put, List.setIfInBounds_toArray, List.set_cons_zero, List.set_cons_succ, i64_w, i32_w]
                                rfl
                              refine pure_ (i := 1) (N := some 71) (v := ?_) (a' := ?_) #[true, true, false, false, false, false, false, false, false, false, false, false, false, false, false, false, false, false, false] rfl rfl (any_of HT_.out (by kernel_rfl)) (fun _ _ _ h => h) (Or.inl ⟨by rfl, ?_⟩) ?_ ?_
                              rotate_left
                              · intro w'
                                go_simp
                                with_reducible rfl
                              rotate_left
                              · simp only [Act.put, List.setIfInBounds_toArray, List.set_cons_zero, List.set_cons_succ, i64_w, i32_w]
                                rfl
                              refine pure_ (i := 3) (N := some 73) (v := ?_) (a' := ?_) #[true, true, false, true, false, false, false, false, false, false, false, false, false, false, false, false, false, false, false] rfl rfl (any_of HT_.out (by kernel_rfl)) (fun _ _ _ h => h) (Or.inl ⟨by rfl, ?_⟩) ?_ ?_
                              rotate_left
                              · intro w'
                                go_simp
                                with_reducible rfl
                              rotate_left
                              · simp only [Act.put, List.setIfInBounds_toArray, List.set_cons_zero, List.set_cons_succ, i64_w, i32_w]
                                rfl
                              refine pure_ (i := 4) (N := some 74) (v := ?_) (a' := ?_) #[true, true, false, true, true, false, false, false, false, false, false, false, false, false, false, false, false, false, false] rfl rfl (any_of HT_.out (by kernel_rfl)) (fun _ _ _ h => h) (Or.inl ⟨by rfl, ?_⟩) ?_ ?_
                              rotate_left
                              · intro w'
                                go_simp
                                with_reducible rfl
                              rotate_left
                              · simp only [Act.put, List.setIfInBounds_toArray, List.set_cons_zero, List.set_cons_succ, i64_w, i32_w]
                                rfl
                              refine pure_ (i := 6) (N := some 76) (v := ?_) (a' := ?_) #[true, true, false, true, true, false, true, false, false, false, false, false, false, false, false, false, false, false, false] rfl rfl (any_of HT_.out (by kernel_rfl)) (fun _ _ _ h => h) (Or.inl ⟨by rfl, ?_⟩) ?_ ?_
                              rotate_left
                              · intro w'
                                go_simp
                                with_reducible rfl
                              rotate_left
                              · simp only [Act.put, List.setIfInBounds_toArray, List.set_cons_zero, List.set_cons_succ, i64_w, i32_w]
                                rfl
                              refine pure_ (i := 7) (N := some 77) (v := ?_) (a' := ?_) #[true, true, false, true, true, false, true, true, false, false, false, false, false, false, false, false, false, false, false] rfl rfl (any_of HT_.out (by kernel_rfl)) (fun _ _ _ h => h) (Or.inl ⟨by rfl, ?_⟩) ?_ ?_
                              rotate_left
                              · intro w'
                                go_simp
                                with_reducible rfl
                              rotate_left
                              · simp only [Act.put, List.setIfInBounds_toArray, List.set_cons_zero, List.set_cons_succ, i64_w, i32_w]
                                rfl
                              refine pure_ (i := 9) (N := some 79) (v := ?_) (a' := ?_) #[true, true, false, true, true, false, true, true, false, true, false, false, false, false, false, false, false, false, false] rfl rfl (any_of HT_.out (by kernel_rfl)) (fun _ _ _ h => h) (Or.inl ⟨by rfl, ?_⟩) ?_ ?_
                              rotate_left
                              · intro w'
                                go_simp
                                with_reducible rfl
                              rotate_left
                              · simp only [Act.put, List.setIfInBounds_toArray, List.set_cons_zero, List.set_cons_succ, i64_w, i32_w]
                                rfl
                              refine pure_ (i := 10) (N := some 80) (v := ?_) (a' := ?_) #[true, true, false, true, true, false, true, true, false, true, true, false, false, false, false, false, false, false, false] rfl rfl (any_of HT_.out (by kernel_rfl)) (fun _ _ _ h => h) (Or.inl ⟨by rfl, ?_⟩) ?_ ?_
                              rotate_left
                              · intro w'
                                go_simp
                                with_reducible rfl
                              rotate_left
                              · simp only [Act.put, List.setIfInBounds_toArray, List.set_cons_zero, List.set_cons_succ, i64_w, i32_w]
                                rfl
                              refine pure_ (i := 12) (N := some 82) (v := ?_) (a' := ?_) #[true, true, false, true, true, false, true, true, false, true, true, false, true, false, false, false, false, false, false] rfl rfl (any_of HT_.out (by kernel_rfl)) (fun _ _ _ h => h) (Or.inl ⟨by rfl, ?_⟩) ?_ ?_
                              rotate_left
                              · intro w'
                                go_simp
                                with_reducible rfl
                              rotate_left
                              · simp only [Act.put, List.setIfInBounds_toArray, List.set_cons_zero, List.set_cons_succ, i64_w, i32_w]
                                rfl
                              refine pure_ (i := 13) (N := some 83) (v := ?_) (a' := ?_) #[true, true, false, true, true, false, true, true, false, true, true, false, true, true, false, false, false, false, false] rfl rfl (any_of HT_.out (by kernel_rfl)) (fun _ _ _ h => h) (Or.inl ⟨by rfl, ?_⟩) ?_ ?_
                              rotate_left
                              · intro w'
                                go_simp
                                with_reducible rfl
                              rotate_left
                              · simp only [Act.put, List.setIfInBounds_toArray, List.set_cons_zero, List.set_cons_succ, i64_w, i32_w]
                                rfl
                              refine take_ (i := 2) (N := some 72) (v := ?_) (a' := ?_) #[true, true, true, true, true, false, true, true, false, true, true, false, true, true, false, false, false, false, false] rfl rfl (take_ofW HT_.out HW_.out (by kernel_rfl)) (fun _ _ _ h => h) (Or.inl ⟨by rfl, ?_⟩) hHeld ?_ ?_
                              rotate_left
                              · rintro w' ⟨s0, s1, s2, s3, s4, s5, s6, s7, s8, s9, s10⟩
                                go_simp
                                with_reducible rfl
                              rotate_left
                              · simp only [Act.put, List.setIfInBounds_toArray, List.set_cons_zero, List.set_cons_succ, i64_w, i32_w]
                                rfl
                              refine take_ (i := 5) (N := some 75) (v := ?_) (a' := ?_) #[true, true, true, true, true, true, true, true, false, true, true, false, true, true, false, false, false, false, false] rfl rfl (take_ofW HT_.out HW_.out (by kernel_rfl)) (fun _ _ _ h => h) (Or.inl ⟨by rfl, ?_⟩) hHeld ?_ ?_
                              rotate_left
                              · rintro w' ⟨s0, s1, s2, s3, s4, s5, s6, s7, s8, s9, s10⟩
                                go_simp
                                with_reducible rfl
                              rotate_left
                              · simp only [Act.put, List.setIfInBounds_toArray, List.set_cons_zero, List.set_cons_succ, i64_w, i32_w]
                                rfl
                              refine take_ (i := 8) (N := some 78) (v := ?_) (a' := ?_) #[true, true, true, true, true, true, true, true, true, true, true, false, true, true, false, false, false, false, false] rfl rfl (take_ofW HT_.out HW_.out (by kernel_rfl)) (fun _ _ _ h => h) (Or.inl ⟨by rfl, ?_⟩) hHeld ?_ ?_
                              rotate_left
                              · rintro w' ⟨s0, s1, s2, s3, s4, s5, s6, s7, s8, s9, s10⟩
                                go_simp
                                with_reducible rfl
                              rotate_left
                              · simp only [Act.put, List.setIfInBounds_toArray, List.set_cons_zero, List.set_cons_succ, i64_w, i32_w]
                                rfl
                              refine take_ (i := 11) (N := some 81) (v := ?_) (a' := ?_) #[true, true, true, true, true, true, true, true, true, true, true, true, true, true, false, false, false, false, false] rfl rfl (take_ofW HT_.out HW_.out (by kernel_rfl)) (fun _ _ _ h => h) (Or.inl ⟨by rfl, ?_⟩) hHeld ?_ ?_
                              rotate_left
                              · rintro w' ⟨s0, s1, s2, s3, s4, s5, s6, s7, s8, s9, s10⟩
                                go_simp
                                with_reducible rfl
                              rotate_left
                              · simp only [Act.put, List.setIfInBounds_toArray, List.set_cons_zero, List.set_cons_succ, i64_w, i32_w]
                                rfl
                              refine take_ (i := 14) (N := some 84) (v := ?_) (a' := ?_) #[true, true, true, true, true, true, true, true, true, true, true, true, true, true, true, false, false, false, false] rfl rfl (take_ofW HT_.out HW_.out (by kernel_rfl)) (fun _ _ _ h => h) (Or.inl ⟨by rfl, ?_⟩) hHeld ?_ ?_
                              rotate_left
                              · rintro w' ⟨s0, s1, s2, s3, s4, s5, s6, s7, s8, s9, s10⟩
                                go_simp
                                with_reducible rfl
                              rotate_left
                              · simp only [Act.put, List.setIfInBounds_toArray, List.set_cons_zero, List.set_cons_succ, i64_w, i32_w]
                                rfl
                              refine take_ (i := 15) (N := some 85) (v := ?_) (a' := ?_) #[true, true, true, true, true, true, true, true, true, true, true, true, true, true, true, true, false, false, false] rfl rfl (take_ofW HT_.out HW_.out (by kernel_rfl)) (fun _ _ _ h => h) (Or.inl ⟨by rfl, ?_⟩) hHeld ?_ ?_
                              rotate_left
                              · rintro w' ⟨s0, s1, s2, s3, s4, s5, s6, s7, s8, s9, s10⟩
                                go_simp
                                with_reducible rfl
                              rotate_left
                              · simp only [Act.put, List.setIfInBounds_toArray, List.set_cons_zero, List.set_cons_succ, i64_w, i32_w]
                                rfl
                              refine pure_ (i := 16) (N := some 86) (v := ?_) (a' := ?_) #[true, true, true, true, true, true, true, true, true, true, true, true, true, true, true, true, true, false, false] rfl rfl (any_of HT_.out (by kernel_rfl)) (fun _ _ _ h => h) (Or.inl ⟨by rfl, ?_⟩) ?_ ?_
                              rotate_left
                              · intro w'
                                go_simp
                                with_reducible rfl
                              rotate_left
                              · simp only [Act.put, List.setIfInBounds_toArray, List.set_cons_zero, List.set_cons_succ, i64_w, i32_w]
                                rfl
                              refine one_ (i := 17) (N := none) #[true, true, true, true, true, true, true, true, true, true, true, true, true, true, true, true, true, true, false] rfl rfl (one_of HT_.out (by kernel_rfl)) (by decide) (fun K hK => ?_)
                              (pxhQ13_ hs37 w36 gb349 0 (.int .i64 0) BK349; pxfQ13_ hfs37 BK349 0)
                              have hns37_1 := NB369_349.out
                              have hms37_1 := NB349_369.out
                              (pxhQ13_ hs38 w36 gb349 1 (.int .i64 0) BK349; pxfQ13_ hfs38 BK349 1)
                              have hns38_1 := NB369_349.out
                              have hms38_1 := NB349_369.out
                              (pxhQ13_ hs39 w36 gb349 2 (.int .i64 0) BK349; pxfQ13_ hfs39 BK349 2)
                              have hns39_1 := NB369_349.out
                              have hms39_1 := NB349_369.out
                              (pxhQ13_ hs40 w36 gb349 3 (.int .i64 0) BK349; pxfQ13_ hfs40 BK349 3)
                              have hns40_1 := NB369_349.out
                              have hms40_1 := NB349_369.out
                              (pxhQ13_ hs41 w36 gb349 4 (.int .i64 0) BK349; pxfQ13_ hfs41 BK349 4)
                              have hns41_1 := NB369_349.out
                              have hms41_1 := NB349_369.out
                              (pxhQ13_ hs42 w36 gb349 5 (.int .i64 0) BK349; pxfQ13_ hfs42 BK349 5)
                              have hns42_1 := NB369_349.out
                              have hms42_1 := NB349_369.out
                              (pxhQ13_ hs43 w36 gb349 6 (.int .i64 0) BK349; pxfQ13_ hfs43 BK349 6)
                              have hns43_1 := NB369_349.out
                              have hms43_1 := NB349_369.out
                              (pxhQ13_ hs44 w36 gb349 7 (.int .i64 0) BK349; pxfQ13_ hfs44 BK349 7)
                              have hns44_1 := NB369_349.out
                              have hms44_1 := NB349_369.out
                              (pxhQ13_ hs45 w36 gb349 8 (.int .i64 0) BK349; pxfQ13_ hfs45 BK349 8)
                              have hns45_1 := NB369_349.out
                              have hms45_1 := NB349_369.out
                              (pxhQ13_ hs46 w36 gb349 9 (.string (⟨#[]⟩ : ByteArray)) BK349; pxfQ13_ hfs46 BK349 9)
                              have hns46_1 := NB369_349.out
                              have hms46_1 := NB349_369.out
                              (pxhQ13_ hs47 w36 gb349 10 (.slice none 0 0) BK349; pxfQ13_ hfs47 BK349 10)
                              have hns47_1 := NB369_349.out
                              have hms47_1 := NB349_369.out
                              refine skip_ (w1 := ?_) (by rfl) rfl ?_ ?_
                              rotate_left
                              · go_simp
                                rfl
                              have NE0_ := Kd.own_blk (Kd.R_ne HO356.out BK349.out (by decide))
                              refine hK.out _ _ ⟨(by rw [cell_far (a := ⟨gb369, _, none⟩) (p := ⟨gb349, _, none⟩) NB369_349.out, cell_far (a := ⟨gb369, _, none⟩) (p := ⟨gb349, _, none⟩) NB369_349.out, cell_far (a := ⟨gb369, _, none⟩) (p := ⟨gb349, _, none⟩) NB369_349.out, cell_far (a := ⟨gb369, _, none⟩) (p := ⟨gb349, _, none⟩) NB369_349.out, cell_far (a := ⟨gb369, _, none⟩) (p := ⟨gb349, _, none⟩) NB369_349.out, cell_far (a := ⟨gb369, _, none⟩) (p := ⟨gb349, _, none⟩) NB369_349.out, cell_far (a := ⟨gb369, _, none⟩) (p := ⟨gb349, _, none⟩) NB369_349.out, cell_far (a := ⟨gb369, _, none⟩) (p := ⟨gb349, _, none⟩) NB369_349.out, cell_far (a := ⟨gb369, _, none⟩) (p := ⟨gb349, _, none⟩) NB369_349.out, cell_far (a := ⟨gb369, _, none⟩) (p := ⟨gb349, _, none⟩) NB369_349.out, cell_far (a := ⟨gb369, _, none⟩) (p := ⟨gb349, _, none⟩) NB369_349.out]; exact hHeld.1), (by rw [cell_far (a := ⟨gb369, _, none⟩) (p := ⟨gb349, _, none⟩) NB369_349.out, cell_far (a := ⟨gb369, _, none⟩) (p := ⟨gb349, _, none⟩) NB369_349.out, cell_far (a := ⟨gb369, _, none⟩) (p := ⟨gb349, _, none⟩) NB369_349.out, cell_far (a := ⟨gb369, _, none⟩) (p := ⟨gb349, _, none⟩) NB369_349.out, cell_far (a := ⟨gb369, _, none⟩) (p := ⟨gb349, _, none⟩) NB369_349.out, cell_far (a := ⟨gb369, _, none⟩) (p := ⟨gb349, _, none⟩) NB369_349.out, cell_far (a := ⟨gb369, _, none⟩) (p := ⟨gb349, _, none⟩) NB369_349.out, cell_far (a := ⟨gb369, _, none⟩) (p := ⟨gb349, _, none⟩) NB369_349.out, cell_far (a := ⟨gb369, _, none⟩) (p := ⟨gb349, _, none⟩) NB369_349.out, cell_far (a := ⟨gb369, _, none⟩) (p := ⟨gb349, _, none⟩) NB369_349.out, cell_far (a := ⟨gb369, _, none⟩) (p := ⟨gb349, _, none⟩) NB369_349.out]; exact hHeld.2.1), (by rw [cell_far (a := ⟨gb369, _, none⟩) (p := ⟨gb349, _, none⟩) NB369_349.out, cell_far (a := ⟨gb369, _, none⟩) (p := ⟨gb349, _, none⟩) NB369_349.out, cell_far (a := ⟨gb369, _, none⟩) (p := ⟨gb349, _, none⟩) NB369_349.out, cell_far (a := ⟨gb369, _, none⟩) (p := ⟨gb349, _, none⟩) NB369_349.out, cell_far (a := ⟨gb369, _, none⟩) (p := ⟨gb349, _, none⟩) NB369_349.out, cell_far (a := ⟨gb369, _, none⟩) (p := ⟨gb349, _, none⟩) NB369_349.out, cell_far (a := ⟨gb369, _, none⟩) (p := ⟨gb349, _, none⟩) NB369_349.out, cell_far (a := ⟨gb369, _, none⟩) (p := ⟨gb349, _, none⟩) NB369_349.out, cell_far (a := ⟨gb369, _, none⟩) (p := ⟨gb349, _, none⟩) NB369_349.out, cell_far (a := ⟨gb369, _, none⟩) (p := ⟨gb349, _, none⟩) NB369_349.out, cell_far (a := ⟨gb369, _, none⟩) (p := ⟨gb349, _, none⟩) NB369_349.out]; exact hHeld.2.2.1), (by rw [cell_far (a := ⟨gb369, _, none⟩) (p := ⟨gb349, _, none⟩) NB369_349.out, cell_far (a := ⟨gb369, _, none⟩) (p := ⟨gb349, _, none⟩) NB369_349.out, cell_far (a := ⟨gb369, _, none⟩) (p := ⟨gb349, _, none⟩) NB369_349.out, cell_far (a := ⟨gb369, _, none⟩) (p := ⟨gb349, _, none⟩) NB369_349.out, cell_far (a := ⟨gb369, _, none⟩) (p := ⟨gb349, _, none⟩) NB369_349.out, cell_far (a := ⟨gb369, _, none⟩) (p := ⟨gb349, _, none⟩) NB369_349.out, cell_far (a := ⟨gb369, _, none⟩) (p := ⟨gb349, _, none⟩) NB369_349.out, cell_far (a := ⟨gb369, _, none⟩) (p := ⟨gb349, _, none⟩) NB369_349.out, cell_far (a := ⟨gb369, _, none⟩) (p := ⟨gb349, _, none⟩) NB369_349.out, cell_far (a := ⟨gb369, _, none⟩) (p := ⟨gb349, _, none⟩) NB369_349.out, cell_far (a := ⟨gb369, _, none⟩) (p := ⟨gb349, _, none⟩) NB369_349.out]; exact hHeld.2.2.2.1), (by rw [cell_far (a := ⟨gb369, _, none⟩) (p := ⟨gb349, _, none⟩) NB369_349.out, cell_far (a := ⟨gb369, _, none⟩) (p := ⟨gb349, _, none⟩) NB369_349.out, cell_far (a := ⟨gb369, _, none⟩) (p := ⟨gb349, _, none⟩) NB369_349.out, cell_far (a := ⟨gb369, _, none⟩) (p := ⟨gb349, _, none⟩) NB369_349.out, cell_far (a := ⟨gb369, _, none⟩) (p := ⟨gb349, _, none⟩) NB369_349.out, cell_far (a := ⟨gb369, _, none⟩) (p := ⟨gb349, _, none⟩) NB369_349.out, cell_far (a := ⟨gb369, _, none⟩) (p := ⟨gb349, _, none⟩) NB369_349.out, cell_far (a := ⟨gb369, _, none⟩) (p := ⟨gb349, _, none⟩) NB369_349.out, cell_far (a := ⟨gb369, _, none⟩) (p := ⟨gb349, _, none⟩) NB369_349.out, cell_far (a := ⟨gb369, _, none⟩) (p := ⟨gb349, _, none⟩) NB369_349.out, cell_far (a := ⟨gb369, _, none⟩) (p := ⟨gb349, _, none⟩) NB369_349.out]; exact hHeld.2.2.2.2.1), (by rw [cell_far (a := ⟨gb369, _, none⟩) (p := ⟨gb349, _, none⟩) NB369_349.out, cell_far (a := ⟨gb369, _, none⟩) (p := ⟨gb349, _, none⟩) NB369_349.out, cell_far (a := ⟨gb369, _, none⟩) (p := ⟨gb349, _, none⟩) NB369_349.out, cell_far (a := ⟨gb369, _, none⟩) (p := ⟨gb349, _, none⟩) NB369_349.out, cell_far (a := ⟨gb369, _, none⟩) (p := ⟨gb349, _, none⟩) NB369_349.out, cell_far (a := ⟨gb369, _, none⟩) (p := ⟨gb349, _, none⟩) NB369_349.out, cell_far (a := ⟨gb369, _, none⟩) (p := ⟨gb349, _, none⟩) NB369_349.out, cell_far (a := ⟨gb369, _, none⟩) (p := ⟨gb349, _, none⟩) NB369_349.out, cell_far (a := ⟨gb369, _, none⟩) (p := ⟨gb349, _, none⟩) NB369_349.out, cell_far (a := ⟨gb369, _, none⟩) (p := ⟨gb349, _, none⟩) NB369_349.out, cell_far (a := ⟨gb369, _, none⟩) (p := ⟨gb349, _, none⟩) NB369_349.out]; exact hHeld.2.2.2.2.2.1), (by rw [cell_far NE0_, cell_far NE0_, cell_far NE0_, cell_far NE0_, cell_far NE0_, cell_far NE0_, cell_far NE0_, cell_far NE0_, cell_far NE0_, cell_far NE0_, cell_far NE0_]; exact hHeld.2.2.2.2.2.2.1), (by rw [cell_far NE0_, cell_far NE0_, cell_far NE0_, cell_far NE0_, cell_far NE0_, cell_far NE0_, cell_far NE0_, cell_far NE0_, cell_far NE0_, cell_far NE0_, cell_far NE0_]; exact hHeld.2.2.2.2.2.2.2.1), (by rw [cell_far NE0_, cell_far NE0_, cell_far NE0_, cell_far NE0_, cell_far NE0_, cell_far NE0_, cell_far NE0_, cell_far NE0_, cell_far NE0_, cell_far NE0_, cell_far NE0_]; exact hHeld.2.2.2.2.2.2.2.2.1), (by rw [cell_far NE0_, cell_far NE0_, cell_far NE0_, cell_far NE0_, cell_far NE0_, cell_far NE0_, cell_far NE0_, cell_far NE0_, cell_far NE0_, cell_far NE0_, cell_far NE0_]; exact hHeld.2.2.2.2.2.2.2.2.2.1), (by rw [cell_far NE0_, cell_far NE0_, cell_far NE0_, cell_far NE0_, cell_far NE0_, cell_far NE0_, cell_far NE0_, cell_far NE0_, cell_far NE0_, cell_far NE0_, cell_far NE0_]; exact hHeld.2.2.2.2.2.2.2.2.2.2)⟩ (fun hHeld => ?_)
                              clear hK K
                              refine pure_ (i := 18) (N := some 3) (v := ?_) (a' := ?_) #[true, true, true, true, true, true, true, true, true, true, true, true, true, true, true, true, true, true, true] rfl rfl (any_of HT_.out (by kernel_rfl)) (fun _ _ _ h => h) (Or.inl ⟨by rfl, ?_⟩) ?_ ?_
                              rotate_left
                              · intro w'
                                go_simp
                                with_reducible rfl
                              rotate_left
                              · simp only [Act.put, List.setIfInBounds_toArray, List.set_cons_zero, List.set_cons_succ, i64_w, i32_w]
                                rfl
                              refine done_ (done_of HT_.out (by kernel_rfl)) ?_
                              try go_wp2
                              refine bodyPost_ret (results_ct rfl _ _ gb349 37 #[.int .i64 (rd t352 0), .int .i64 (rd t352 1), .int .i64 (rd t352 2), .int .i64 (rd t352 3), .int .i64 (rd t352 4), .int .i64 (rd t352 5), .int .i64 (rd t352 6), .int .i64 (rd t352 7), .int .i64 (rd t352 8), .string t357, .slice Ao27 t360.length co27] (0, 0) _ rfl (by (with_reducible repeat (first | refine blk_drewN ?_ _ | refine blk_drew ?_ | refine blk_alloc ?_ _)); refine blk_put (cs := #[.int .i64 (rd t352 0), .int .i64 (rd t352 1), .int .i64 (rd t352 2), .int .i64 (rd t352 3), .int .i64 (rd t352 4), .int .i64 (rd t352 5), .int .i64 (rd t352 6), .int .i64 (rd t352 7), .int .i64 (rd t352 8), .string t357, .slice none 0 0]) ?_ 10 _ rfl; (with_reducible repeat (first | refine blk_drewN ?_ _ | refine blk_drew ?_ | refine blk_alloc ?_ _)); refine blk_put (cs := #[.int .i64 (rd t352 0), .int .i64 (rd t352 1), .int .i64 (rd t352 2), .int .i64 (rd t352 3), .int .i64 (rd t352 4), .int .i64 (rd t352 5), .int .i64 (rd t352 6), .int .i64 (rd t352 7), .int .i64 (rd t352 8), .string (⟨#[]⟩ : ByteArray), .slice none 0 0]) ?_ 9 _ rfl; (with_reducible repeat (first | refine blk_drewN ?_ _ | refine blk_drew ?_ | refine blk_alloc ?_ _)); refine blk_put (cs := #[.int .i64 (rd t352 0), .int .i64 (rd t352 1), .int .i64 (rd t352 2), .int .i64 (rd t352 3), .int .i64 (rd t352 4), .int .i64 (rd t352 5), .int .i64 (rd t352 6), .int .i64 (rd t352 7), .int .i64 0, .string (⟨#[]⟩ : ByteArray), .slice none 0 0]) ?_ 8 _ rfl; (with_reducible repeat (first | refine blk_drewN ?_ _ | refine blk_drew ?_ | refine blk_alloc ?_ _)); refine blk_put (cs := #[.int .i64 (rd t352 0), .int .i64 (rd t352 1), .int .i64 (rd t352 2), .int .i64 (rd t352 3), .int .i64 (rd t352 4), .int .i64 (rd t352 5), .int .i64 (rd t352 6), .int .i64 0, .int .i64 0, .string (⟨#[]⟩ : ByteArray), .slice none 0 0]) ?_ 7 _ rfl; (with_reducible repeat (first | refine blk_drewN ?_ _ | refine blk_drew ?_ | refine blk_alloc ?_ _)); refine blk_put (cs := #[.int .i64 (rd t352 0), .int .i64 (rd t352 1), .int .i64 (rd t352 2), .int .i64 (rd t352 3), .int .i64 (rd t352 4), .int .i64 (rd t352 5), .int .i64 0, .int .i64 0, .int .i64 0, .string (⟨#[]⟩ : ByteArray), .slice none 0 0]) ?_ 6 _ rfl; (with_reducible repeat (first | refine blk_drewN ?_ _ | refine blk_drew ?_ | refine blk_alloc ?_ _)); refine blk_put (cs := #[.int .i64 (rd t352 0), .int .i64 (rd t352 1), .int .i64 (rd t352 2), .int .i64 (rd t352 3), .int .i64 (rd t352 4), .int .i64 0, .int .i64 0, .int .i64 0, .int .i64 0, .string (⟨#[]⟩ : ByteArray), .slice none 0 0]) ?_ 5 _ rfl; (with_reducible repeat (first | refine blk_drewN ?_ _ | refine blk_drew ?_ | refine blk_alloc ?_ _)); refine blk_put (cs := #[.int .i64 (rd t352 0), .int .i64 (rd t352 1), .int .i64 (rd t352 2), .int .i64 (rd t352 3), .int .i64 0, .int .i64 0, .int .i64 0, .int .i64 0, .int .i64 0, .string (⟨#[]⟩ : ByteArray), .slice none 0 0]) ?_ 4 _ rfl; (with_reducible repeat (first | refine blk_drewN ?_ _ | refine blk_drew ?_ | refine blk_alloc ?_ _)); refine blk_put (cs := #[.int .i64 (rd t352 0), .int .i64 (rd t352 1), .int .i64 (rd t352 2), .int .i64 0, .int .i64 0, .int .i64 0, .int .i64 0, .int .i64 0, .int .i64 0, .string (⟨#[]⟩ : ByteArray), .slice none 0 0]) ?_ 3 _ rfl; (with_reducible repeat (first | refine blk_drewN ?_ _ | refine blk_drew ?_ | refine blk_alloc ?_ _)); refine blk_put (cs := #[.int .i64 (rd t352 0), .int .i64 (rd t352 1), .int .i64 0, .int .i64 0, .int .i64 0, .int .i64 0, .int .i64 0, .int .i64 0, .int .i64 0, .string (⟨#[]⟩ : ByteArray), .slice none 0 0]) ?_ 2 _ rfl; (with_reducible repeat (first | refine blk_drewN ?_ _ | refine blk_drew ?_ | refine blk_alloc ?_ _)); refine blk_put (cs := #[.int .i64 (rd t352 0), .int .i64 0, .int .i64 0, .int .i64 0, .int .i64 0, .int .i64 0, .int .i64 0, .int .i64 0, .int .i64 0, .string (⟨#[]⟩ : ByteArray), .slice none 0 0]) ?_ 1 _ rfl; (with_reducible repeat (first | refine blk_drewN ?_ _ | refine blk_drew ?_ | refine blk_alloc ?_ _)); refine blk_put (cs := pxAQ130_) ?_ 0 _ rfl; (with_reducible repeat (first | refine blk_drewN ?_ _ | refine blk_drew ?_ | refine blk_alloc ?_ _)); exact BK349.out) Try.underlying37 rfl (by kernel_rfl)) rfl ?_
                              exact ⟨_, by first | rfl | (simp [errW_none, errW_some] <;> rfl) | (simp [*, errW_none, errW_some] <;> rfl), by (with_reducible repeat (first | apply Kd.R_alloc | apply Kd.R_drewN | apply Kd.R_drew)); exact Kd.R_mono (Kd.R_far (p := ⟨gb349, 10, none⟩) (Kd.R_far (p := ⟨gb349, 9, none⟩) (Kd.R_far (p := ⟨gb349, 8, none⟩) (Kd.R_far (p := ⟨gb349, 7, none⟩) (Kd.R_far (p := ⟨gb349, 6, none⟩) (Kd.R_far (p := ⟨gb349, 5, none⟩) (Kd.R_far (p := ⟨gb349, 4, none⟩) (Kd.R_far (p := ⟨gb349, 3, none⟩) (Kd.R_far (p := ⟨gb349, 2, none⟩) (Kd.R_far (p := ⟨gb349, 1, none⟩) (Kd.R_far (p := ⟨gb349, 0, none⟩) (Kd.R_types HO364.out BK349.out (by decide)) (fun _ hk => hk.2) (.int .i64 (rd t352 0))) (fun _ hk => hk.2) (.int .i64 (rd t352 1))) (fun _ hk => hk.2) (.int .i64 (rd t352 2))) (fun _ hk => hk.2) (.int .i64 (rd t352 3))) (fun _ hk => hk.2) (.int .i64 (rd t352 4))) (fun _ hk => hk.2) (.int .i64 (rd t352 5))) (fun _ hk => hk.2) (.int .i64 (rd t352 6))) (fun _ hk => hk.2) (.int .i64 (rd t352 7))) (fun _ hk => hk.2) (.int .i64 (rd t352 8))) (fun _ hk => hk.2) (.string t357)) (fun _ hk => hk.2) (.slice Ao27 t360.length co27)) (fun _ hk => trivial), by repeat (first | (with_reducible first | exact HB.out | apply below_alloc | apply pw_below_drewN | apply below_drew1 | refine below_set ?_ GE349.out | refine below_set ?_ GE369.out) | exact HB.out)⟩
                            · rw [if_neg c19] at H
                              exact absurd H (by simp)
                          · rw [if_neg c18] at H
                            exact absurd H (by simp)
                        · rw [if_neg c17] at H
                          exact absurd H (by simp)
                      · rw [if_neg c16] at H
                        exact absurd H (by simp)
                    · rw [if_neg c15] at H
                      exact absurd H (by simp)
                  · rw [if_neg c14] at H
                    exact absurd H (by simp)
                · rw [if_neg c13] at H
                  exact absurd H (by simp)
              · rw [if_neg c12] at H
                exact absurd H (by simp)
            · rw [if_neg c11] at H
              exact absurd H (by simp)
          · rw [if_neg c10] at H
            have c10b0 : (t361.toList == ([] : List UInt8)) = false := beq_eq_false_iff_ne.mpr c10
            have c10b1 : (t361.toList != ([] : List UInt8)) = true := bne_iff_ne.mpr c10
            simp only [Option.some.injEq, Prod.mk.injEq] at H
            obtain ⟨rfl, rfl, rfl, rfl, rfl, rfl, rfl, rfl, rfl, rfl, rfl, rfl⟩ := H
            go_enter Try.func26, Try.ntmps26
            go_wp2_with (first | ((with_reducible refine gate_dst (N := 2) rfl ?_); refine box_event ?hg (N := 2) ?hd (cs := pxAQ130_) (t := 37) ?hr ?_; (case hd => rfl); (case hg => rfl); (case hr => first | (go_simp; done) | (go_simp; rfl)); intro gb349 hg w48 hbox hb; have n0_ := Aside0.mk (below_step (by repeat (first | (with_reducible first | exact HB.out | apply below_alloc | apply pw_below_drewN | apply below_drew1) | exact HB.out)) hb); have n1_ := Aside0.mk (hbox); have n2_ := Aside0.mk ((by rw [hg]; exact (below_size (by repeat (first | (with_reducible first | exact HB.out | apply below_alloc | apply pw_below_drewN | apply below_drew1) | exact HB.out))) : w.heap.size ≤ gb349)); have n3_ := Aside0.mk ((by rw [hg]; exact (below_size (by repeat (first | (with_reducible first | exact HB.out | apply below_alloc | apply pw_below_drewN | apply below_drew1) | exact HB.out))) : w.heap.size ≤ gb349)); clear HB; have HB := n0_; have BK349 := n1_; have GW349 := n2_; have GE349 := n3_; clear n0_ n1_ n2_ n3_; clear hb hbox hg) | ((with_reducible refine gate_callee (f := 43) rfl ?_); refine goesL_ (some 15) rfl rfl Try.func43 (by kernel_rfl) rfl #[.string a0, .int .u8 114] rfl (by (try simp only [List.map_toArray, List.map_cons, List.map_nil]); first | done | rfl | (simp only [List.length_drop, List.length_take]; rfl)) ?_; (with_reducible refine (copyholdref15_begun.calls k a0 114 t350 t351 _ A2.out).mono ?_); rintro e w49 ⟨rfl, hb⟩; refine ⟨_, rfl, ?_⟩; have n0_ := Aside0.mk (blk_below (g := gb349) (o := .cells pxAQ130_ 37 (0, 0)) (by (with_reducible repeat (first | refine blk_drewN ?_ _ | refine blk_drew ?_ | refine blk_alloc ?_ _)); exact BK349.out) hb); have n1_ := Aside0.mk (below_step (by repeat (first | (with_reducible first | exact HB.out | apply below_alloc | apply pw_below_drewN | apply below_drew1 | refine below_set ?_ GE349.out) | exact HB.out)) hb); clear BK349; clear HB; have BK349 := n0_; have HB := n1_; clear n0_ n1_; (try clear hb); (try clear hb2); (try clear hk); (try clear hi)) | ((with_reducible refine gate_callee (f := 38) rfl ?_); refine goesL_ (some 24) rfl rfl Try.func38 (by kernel_rfl) rfl #[.string t350, .int .i64 9] rfl (by (try simp only [List.map_toArray, List.map_cons, List.map_nil]); first | done | rfl | (simp only [List.length_drop, List.length_take]; rfl)) ?_; (with_reducible refine (copyholdref15_numbers.calls k t350 9 t352 t353 t354 _ A4.out).mono ?_); rintro e w50 ⟨v355, rfl, ho0, hb⟩; refine ⟨_, rfl, ?_⟩; have n0_ := Aside0.mk (Kd.R_lower ho0 (below_size (by repeat (first | (with_reducible first | exact HB.out | apply below_alloc | apply pw_below_drewN | apply below_drew1 | refine below_set ?_ GE349.out) | exact HB.out)))); have n1_ := Aside0.mk (blk_below (g := gb349) (o := .cells pxAQ130_ 37 (0, 0)) (by (with_reducible repeat (first | refine blk_drewN ?_ _ | refine blk_drew ?_ | refine blk_alloc ?_ _)); exact BK349.out) hb); have n2_ := Aside0.mk (below_step (by repeat (first | (with_reducible first | exact HB.out | apply below_alloc | apply pw_below_drewN | apply below_drew1 | refine below_set ?_ GE349.out) | exact HB.out)) hb); clear BK349; clear HB; have HO356 := n0_; have BK349 := n1_; have HB := n2_; clear n0_ n1_ n2_; (try clear hb); (try clear hb2); (try clear hk); (try clear hi); (try clear ho0)) | ((with_reducible refine gate_callee (f := 39) rfl ?_); refine goesL_ (some 34) rfl rfl Try.func39 (by kernel_rfl) rfl #[.string t353, .int .i64 4096] rfl (by (try simp only [List.map_toArray, List.map_cons, List.map_nil]); first | done | rfl | (simp only [List.length_drop, List.length_take]; rfl)) ?_; (with_reducible refine (copyholdref01_TakeText.calls k t353 4096 t357 t358 t359 _ A6.out).mono ?_); rintro e w51 ⟨rfl, hb⟩; refine ⟨_, rfl, ?_⟩; have n0_ := Aside0.mk (Kd.R_below (by (with_reducible repeat (first | apply Kd.R_alloc | apply Kd.R_drewN | apply Kd.R_drew)); exact HO356.out) hb); have n1_ := Aside0.mk (blk_below (g := gb349) (o := .cells pxAQ130_ 37 (0, 0)) (by (with_reducible repeat (first | refine blk_drewN ?_ _ | refine blk_drew ?_ | refine blk_alloc ?_ _)); exact BK349.out) hb); have n2_ := Aside0.mk (below_step (by repeat (first | (with_reducible first | exact HB.out | apply below_alloc | apply pw_below_drewN | apply below_drew1 | refine below_set ?_ GE349.out) | exact HB.out)) hb); clear HO356; clear BK349; clear HB; have HO356 := n0_; have BK349 := n1_; have HB := n2_; clear n0_ n1_ n2_; (try clear hb); (try clear hb2); (try clear hk); (try clear hi)) | ((with_reducible refine gate_callee (f := 47) rfl ?_); refine goesL_ (some 44) rfl rfl Try.func47 (by kernel_rfl) rfl #[.string t358, .int .i64 256, .int .i64 32] rfl (by (try simp only [List.map_toArray, List.map_cons, List.map_nil]); first | done | rfl | (simp only [List.length_drop, List.length_take]; rfl)) ?_; (with_reducible refine (copyholdref01_TakeList.calls k t358 256 32 t360 t361 t362 _ A8.out).mono ?_); rintro e w52 ⟨v363, rfl, ho0, hb⟩; refine ⟨_, rfl, ?_⟩; have n0_ := Aside0.mk (Kd.R_below (by (with_reducible repeat (first | apply Kd.R_alloc | apply Kd.R_drewN | apply Kd.R_drew)); exact HO356.out) hb); have n1_ := Aside0.mk (Kd.R_lower ho0 (below_size (by repeat (first | (with_reducible first | exact HB.out | apply below_alloc | apply pw_below_drewN | apply below_drew1 | refine below_set ?_ GE349.out) | exact HB.out)))); have n2_ := Aside0.mk (blk_below (g := gb349) (o := .cells pxAQ130_ 37 (0, 0)) (by (with_reducible repeat (first | refine blk_drewN ?_ _ | refine blk_drew ?_ | refine blk_alloc ?_ _)); exact BK349.out) hb); have n3_ := Aside0.mk (below_step (by repeat (first | (with_reducible first | exact HB.out | apply below_alloc | apply pw_below_drewN | apply below_drew1 | refine below_set ?_ GE349.out) | exact HB.out)) hb); clear HO356; clear BK349; clear HB; have HO356 := n0_; have HO364 := n1_; have BK349 := n2_; have HB := n3_; clear n0_ n1_ n2_ n3_; (try clear hb); (try clear hb2); (try clear hk); (try clear hi); (try clear ho0); pxhQ13_ hcz53_0 w52 gb349 0 (.int .i64 0) BK349; pxhQ13_ hcz53_1 w52 gb349 1 (.int .i64 0) BK349; pxhQ13_ hcz53_2 w52 gb349 2 (.int .i64 0) BK349; pxhQ13_ hcz53_3 w52 gb349 3 (.int .i64 0) BK349; pxhQ13_ hcz53_4 w52 gb349 4 (.int .i64 0) BK349; pxhQ13_ hcz53_5 w52 gb349 5 (.int .i64 0) BK349; pxhQ13_ hcz53_6 w52 gb349 6 (.int .i64 0) BK349; pxhQ13_ hcz53_7 w52 gb349 7 (.int .i64 0) BK349; pxhQ13_ hcz53_8 w52 gb349 8 (.int .i64 0) BK349; pxhQ13_ hcz53_9 w52 gb349 9 (.string (⟨#[]⟩ : ByteArray)) BK349; pxhQ13_ hcz53_10 w52 gb349 10 (.slice none 0 0) BK349; pxfQ13_ hfz53_0 BK349 0; pxfQ13_ hfz53_1 BK349 1; pxfQ13_ hfz53_2 BK349 2; pxfQ13_ hfz53_3 BK349 3; pxfQ13_ hfz53_4 BK349 4; pxfQ13_ hfz53_5 BK349 5; pxfQ13_ hfz53_6 BK349 6; pxfQ13_ hfz53_7 BK349 7; pxfQ13_ hfz53_8 BK349 8; pxfQ13_ hfz53_9 BK349 9; pxfQ13_ hfz53_10 BK349 10))
            pxLQ130_
            pxLQ131_
        · rw [if_neg c9] at H
          have c9b0 : (t362 == 0) = false := beq_eq_false_iff_ne.mpr c9
          have c9b1 : (t362 != 0) = true := bne_iff_ne.mpr c9
          simp only [Option.some.injEq, Prod.mk.injEq] at H
          obtain ⟨rfl, rfl, rfl, rfl, rfl, rfl, rfl, rfl, rfl, rfl, rfl, rfl⟩ := H
          go_enter Try.func26, Try.ntmps26
          go_wp2_with (first | ((with_reducible refine gate_dst (N := 2) rfl ?_); refine box_event ?hg (N := 2) ?hd (cs := pxAQ130_) (t := 37) ?hr ?_; (case hd => rfl); (case hg => rfl); (case hr => first | (go_simp; done) | (go_simp; rfl)); intro gb349 hg w54 hbox hb; have n0_ := Aside0.mk (below_step (by repeat (first | (with_reducible first | exact HB.out | apply below_alloc | apply pw_below_drewN | apply below_drew1) | exact HB.out)) hb); have n1_ := Aside0.mk (hbox); have n2_ := Aside0.mk ((by rw [hg]; exact (below_size (by repeat (first | (with_reducible first | exact HB.out | apply below_alloc | apply pw_below_drewN | apply below_drew1) | exact HB.out))) : w.heap.size ≤ gb349)); have n3_ := Aside0.mk ((by rw [hg]; exact (below_size (by repeat (first | (with_reducible first | exact HB.out | apply below_alloc | apply pw_below_drewN | apply below_drew1) | exact HB.out))) : w.heap.size ≤ gb349)); clear HB; have HB := n0_; have BK349 := n1_; have GW349 := n2_; have GE349 := n3_; clear n0_ n1_ n2_ n3_; clear hb hbox hg) | ((with_reducible refine gate_callee (f := 43) rfl ?_); refine goesL_ (some 15) rfl rfl Try.func43 (by kernel_rfl) rfl #[.string a0, .int .u8 114] rfl (by (try simp only [List.map_toArray, List.map_cons, List.map_nil]); first | done | rfl | (simp only [List.length_drop, List.length_take]; rfl)) ?_; (with_reducible refine (copyholdref15_begun.calls k a0 114 t350 t351 _ A2.out).mono ?_); rintro e w55 ⟨rfl, hb⟩; refine ⟨_, rfl, ?_⟩; have n0_ := Aside0.mk (blk_below (g := gb349) (o := .cells pxAQ130_ 37 (0, 0)) (by (with_reducible repeat (first | refine blk_drewN ?_ _ | refine blk_drew ?_ | refine blk_alloc ?_ _)); exact BK349.out) hb); have n1_ := Aside0.mk (below_step (by repeat (first | (with_reducible first | exact HB.out | apply below_alloc | apply pw_below_drewN | apply below_drew1 | refine below_set ?_ GE349.out) | exact HB.out)) hb); clear BK349; clear HB; have BK349 := n0_; have HB := n1_; clear n0_ n1_; (try clear hb); (try clear hb2); (try clear hk); (try clear hi)) | ((with_reducible refine gate_callee (f := 38) rfl ?_); refine goesL_ (some 24) rfl rfl Try.func38 (by kernel_rfl) rfl #[.string t350, .int .i64 9] rfl (by (try simp only [List.map_toArray, List.map_cons, List.map_nil]); first | done | rfl | (simp only [List.length_drop, List.length_take]; rfl)) ?_; (with_reducible refine (copyholdref15_numbers.calls k t350 9 t352 t353 t354 _ A4.out).mono ?_); rintro e w56 ⟨v355, rfl, ho0, hb⟩; refine ⟨_, rfl, ?_⟩; have n0_ := Aside0.mk (Kd.R_lower ho0 (below_size (by repeat (first | (with_reducible first | exact HB.out | apply below_alloc | apply pw_below_drewN | apply below_drew1 | refine below_set ?_ GE349.out) | exact HB.out)))); have n1_ := Aside0.mk (blk_below (g := gb349) (o := .cells pxAQ130_ 37 (0, 0)) (by (with_reducible repeat (first | refine blk_drewN ?_ _ | refine blk_drew ?_ | refine blk_alloc ?_ _)); exact BK349.out) hb); have n2_ := Aside0.mk (below_step (by repeat (first | (with_reducible first | exact HB.out | apply below_alloc | apply pw_below_drewN | apply below_drew1 | refine below_set ?_ GE349.out) | exact HB.out)) hb); clear BK349; clear HB; have HO356 := n0_; have BK349 := n1_; have HB := n2_; clear n0_ n1_ n2_; (try clear hb); (try clear hb2); (try clear hk); (try clear hi); (try clear ho0)) | ((with_reducible refine gate_callee (f := 39) rfl ?_); refine goesL_ (some 34) rfl rfl Try.func39 (by kernel_rfl) rfl #[.string t353, .int .i64 4096] rfl (by (try simp only [List.map_toArray, List.map_cons, List.map_nil]); first | done | rfl | (simp only [List.length_drop, List.length_take]; rfl)) ?_; (with_reducible refine (copyholdref01_TakeText.calls k t353 4096 t357 t358 t359 _ A6.out).mono ?_); rintro e w57 ⟨rfl, hb⟩; refine ⟨_, rfl, ?_⟩; have n0_ := Aside0.mk (Kd.R_below (by (with_reducible repeat (first | apply Kd.R_alloc | apply Kd.R_drewN | apply Kd.R_drew)); exact HO356.out) hb); have n1_ := Aside0.mk (blk_below (g := gb349) (o := .cells pxAQ130_ 37 (0, 0)) (by (with_reducible repeat (first | refine blk_drewN ?_ _ | refine blk_drew ?_ | refine blk_alloc ?_ _)); exact BK349.out) hb); have n2_ := Aside0.mk (below_step (by repeat (first | (with_reducible first | exact HB.out | apply below_alloc | apply pw_below_drewN | apply below_drew1 | refine below_set ?_ GE349.out) | exact HB.out)) hb); clear HO356; clear BK349; clear HB; have HO356 := n0_; have BK349 := n1_; have HB := n2_; clear n0_ n1_ n2_; (try clear hb); (try clear hb2); (try clear hk); (try clear hi)) | ((with_reducible refine gate_callee (f := 47) rfl ?_); refine goesL_ (some 44) rfl rfl Try.func47 (by kernel_rfl) rfl #[.string t358, .int .i64 256, .int .i64 32] rfl (by (try simp only [List.map_toArray, List.map_cons, List.map_nil]); first | done | rfl | (simp only [List.length_drop, List.length_take]; rfl)) ?_; (with_reducible refine (copyholdref01_TakeList.calls k t358 256 32 t360 t361 t362 _ A8.out).mono ?_); rintro e w58 ⟨v363, rfl, ho0, hb⟩; refine ⟨_, rfl, ?_⟩; have n0_ := Aside0.mk (Kd.R_below (by (with_reducible repeat (first | apply Kd.R_alloc | apply Kd.R_drewN | apply Kd.R_drew)); exact HO356.out) hb); have n1_ := Aside0.mk (Kd.R_lower ho0 (below_size (by repeat (first | (with_reducible first | exact HB.out | apply below_alloc | apply pw_below_drewN | apply below_drew1 | refine below_set ?_ GE349.out) | exact HB.out)))); have n2_ := Aside0.mk (blk_below (g := gb349) (o := .cells pxAQ130_ 37 (0, 0)) (by (with_reducible repeat (first | refine blk_drewN ?_ _ | refine blk_drew ?_ | refine blk_alloc ?_ _)); exact BK349.out) hb); have n3_ := Aside0.mk (below_step (by repeat (first | (with_reducible first | exact HB.out | apply below_alloc | apply pw_below_drewN | apply below_drew1 | refine below_set ?_ GE349.out) | exact HB.out)) hb); clear HO356; clear BK349; clear HB; have HO356 := n0_; have HO364 := n1_; have BK349 := n2_; have HB := n3_; clear n0_ n1_ n2_ n3_; (try clear hb); (try clear hb2); (try clear hk); (try clear hi); (try clear ho0); pxhQ13_ hcz59_0 w58 gb349 0 (.int .i64 0) BK349; pxhQ13_ hcz59_1 w58 gb349 1 (.int .i64 0) BK349; pxhQ13_ hcz59_2 w58 gb349 2 (.int .i64 0) BK349; pxhQ13_ hcz59_3 w58 gb349 3 (.int .i64 0) BK349; pxhQ13_ hcz59_4 w58 gb349 4 (.int .i64 0) BK349; pxhQ13_ hcz59_5 w58 gb349 5 (.int .i64 0) BK349; pxhQ13_ hcz59_6 w58 gb349 6 (.int .i64 0) BK349; pxhQ13_ hcz59_7 w58 gb349 7 (.int .i64 0) BK349; pxhQ13_ hcz59_8 w58 gb349 8 (.int .i64 0) BK349; pxhQ13_ hcz59_9 w58 gb349 9 (.string (⟨#[]⟩ : ByteArray)) BK349; pxhQ13_ hcz59_10 w58 gb349 10 (.slice none 0 0) BK349; pxfQ13_ hfz59_0 BK349 0; pxfQ13_ hfz59_1 BK349 1; pxfQ13_ hfz59_2 BK349 2; pxfQ13_ hfz59_3 BK349 3; pxfQ13_ hfz59_4 BK349 4; pxfQ13_ hfz59_5 BK349 5; pxfQ13_ hfz59_6 BK349 6; pxfQ13_ hfz59_7 BK349 7; pxfQ13_ hfz59_8 BK349 8; pxfQ13_ hfz59_9 BK349 9; pxfQ13_ hfz59_10 BK349 10))
          pxLQ130_
          pxLQ131_
      · rw [if_neg c7] at H
        have c7b0 : (t359 == 0) = false := beq_eq_false_iff_ne.mpr c7
        have c7b1 : (t359 != 0) = true := bne_iff_ne.mpr c7
        simp only [Option.some.injEq, Prod.mk.injEq] at H
        obtain ⟨rfl, rfl, rfl, rfl, rfl, rfl, rfl, rfl, rfl, rfl, rfl, rfl⟩ := H
        go_enter Try.func26, Try.ntmps26
        go_wp2_with (first | ((with_reducible refine gate_dst (N := 2) rfl ?_); refine box_event ?hg (N := 2) ?hd (cs := pxAQ130_) (t := 37) ?hr ?_; (case hd => rfl); (case hg => rfl); (case hr => first | (go_simp; done) | (go_simp; rfl)); intro gb349 hg w60 hbox hb; have n0_ := Aside0.mk (below_step (by repeat (first | (with_reducible first | exact HB.out | apply below_alloc | apply pw_below_drewN | apply below_drew1) | exact HB.out)) hb); have n1_ := Aside0.mk (hbox); have n2_ := Aside0.mk ((by rw [hg]; exact (below_size (by repeat (first | (with_reducible first | exact HB.out | apply below_alloc | apply pw_below_drewN | apply below_drew1) | exact HB.out))) : w.heap.size ≤ gb349)); have n3_ := Aside0.mk ((by rw [hg]; exact (below_size (by repeat (first | (with_reducible first | exact HB.out | apply below_alloc | apply pw_below_drewN | apply below_drew1) | exact HB.out))) : w.heap.size ≤ gb349)); clear HB; have HB := n0_; have BK349 := n1_; have GW349 := n2_; have GE349 := n3_; clear n0_ n1_ n2_ n3_; clear hb hbox hg) | ((with_reducible refine gate_callee (f := 43) rfl ?_); refine goesL_ (some 15) rfl rfl Try.func43 (by kernel_rfl) rfl #[.string a0, .int .u8 114] rfl (by (try simp only [List.map_toArray, List.map_cons, List.map_nil]); first | done | rfl | (simp only [List.length_drop, List.length_take]; rfl)) ?_; (with_reducible refine (copyholdref15_begun.calls k a0 114 t350 t351 _ A2.out).mono ?_); rintro e w61 ⟨rfl, hb⟩; refine ⟨_, rfl, ?_⟩; have n0_ := Aside0.mk (blk_below (g := gb349) (o := .cells pxAQ130_ 37 (0, 0)) (by (with_reducible repeat (first | refine blk_drewN ?_ _ | refine blk_drew ?_ | refine blk_alloc ?_ _)); exact BK349.out) hb); have n1_ := Aside0.mk (below_step (by repeat (first | (with_reducible first | exact HB.out | apply below_alloc | apply pw_below_drewN | apply below_drew1 | refine below_set ?_ GE349.out) | exact HB.out)) hb); clear BK349; clear HB; have BK349 := n0_; have HB := n1_; clear n0_ n1_; (try clear hb); (try clear hb2); (try clear hk); (try clear hi)) | ((with_reducible refine gate_callee (f := 38) rfl ?_); refine goesL_ (some 24) rfl rfl Try.func38 (by kernel_rfl) rfl #[.string t350, .int .i64 9] rfl (by (try simp only [List.map_toArray, List.map_cons, List.map_nil]); first | done | rfl | (simp only [List.length_drop, List.length_take]; rfl)) ?_; (with_reducible refine (copyholdref15_numbers.calls k t350 9 t352 t353 t354 _ A4.out).mono ?_); rintro e w62 ⟨v355, rfl, ho0, hb⟩; refine ⟨_, rfl, ?_⟩; have n0_ := Aside0.mk (Kd.R_lower ho0 (below_size (by repeat (first | (with_reducible first | exact HB.out | apply below_alloc | apply pw_below_drewN | apply below_drew1 | refine below_set ?_ GE349.out) | exact HB.out)))); have n1_ := Aside0.mk (blk_below (g := gb349) (o := .cells pxAQ130_ 37 (0, 0)) (by (with_reducible repeat (first | refine blk_drewN ?_ _ | refine blk_drew ?_ | refine blk_alloc ?_ _)); exact BK349.out) hb); have n2_ := Aside0.mk (below_step (by repeat (first | (with_reducible first | exact HB.out | apply below_alloc | apply pw_below_drewN | apply below_drew1 | refine below_set ?_ GE349.out) | exact HB.out)) hb); clear BK349; clear HB; have HO356 := n0_; have BK349 := n1_; have HB := n2_; clear n0_ n1_ n2_; (try clear hb); (try clear hb2); (try clear hk); (try clear hi); (try clear ho0)) | ((with_reducible refine gate_callee (f := 39) rfl ?_); refine goesL_ (some 34) rfl rfl Try.func39 (by kernel_rfl) rfl #[.string t353, .int .i64 4096] rfl (by (try simp only [List.map_toArray, List.map_cons, List.map_nil]); first | done | rfl | (simp only [List.length_drop, List.length_take]; rfl)) ?_; (with_reducible refine (copyholdref01_TakeText.calls k t353 4096 t357 t358 t359 _ A6.out).mono ?_); rintro e w63 ⟨rfl, hb⟩; refine ⟨_, rfl, ?_⟩; have n0_ := Aside0.mk (Kd.R_below (by (with_reducible repeat (first | apply Kd.R_alloc | apply Kd.R_drewN | apply Kd.R_drew)); exact HO356.out) hb); have n1_ := Aside0.mk (blk_below (g := gb349) (o := .cells pxAQ130_ 37 (0, 0)) (by (with_reducible repeat (first | refine blk_drewN ?_ _ | refine blk_drew ?_ | refine blk_alloc ?_ _)); exact BK349.out) hb); have n2_ := Aside0.mk (below_step (by repeat (first | (with_reducible first | exact HB.out | apply below_alloc | apply pw_below_drewN | apply below_drew1 | refine below_set ?_ GE349.out) | exact HB.out)) hb); clear HO356; clear BK349; clear HB; have HO356 := n0_; have BK349 := n1_; have HB := n2_; clear n0_ n1_ n2_; (try clear hb); (try clear hb2); (try clear hk); (try clear hi); pxhQ13_ hcz64_0 w63 gb349 0 (.int .i64 0) BK349; pxhQ13_ hcz64_1 w63 gb349 1 (.int .i64 0) BK349; pxhQ13_ hcz64_2 w63 gb349 2 (.int .i64 0) BK349; pxhQ13_ hcz64_3 w63 gb349 3 (.int .i64 0) BK349; pxhQ13_ hcz64_4 w63 gb349 4 (.int .i64 0) BK349; pxhQ13_ hcz64_5 w63 gb349 5 (.int .i64 0) BK349; pxhQ13_ hcz64_6 w63 gb349 6 (.int .i64 0) BK349; pxhQ13_ hcz64_7 w63 gb349 7 (.int .i64 0) BK349; pxhQ13_ hcz64_8 w63 gb349 8 (.int .i64 0) BK349; pxhQ13_ hcz64_9 w63 gb349 9 (.string (⟨#[]⟩ : ByteArray)) BK349; pxhQ13_ hcz64_10 w63 gb349 10 (.slice none 0 0) BK349; pxfQ13_ hfz64_0 BK349 0; pxfQ13_ hfz64_1 BK349 1; pxfQ13_ hfz64_2 BK349 2; pxfQ13_ hfz64_3 BK349 3; pxfQ13_ hfz64_4 BK349 4; pxfQ13_ hfz64_5 BK349 5; pxfQ13_ hfz64_6 BK349 6; pxfQ13_ hfz64_7 BK349 7; pxfQ13_ hfz64_8 BK349 8; pxfQ13_ hfz64_9 BK349 9; pxfQ13_ hfz64_10 BK349 10))
        pxLQ130_
        pxLQ131_
    · rw [if_neg c5] at H
      have c5b0 : (t354 == 0) = false := beq_eq_false_iff_ne.mpr c5
      have c5b1 : (t354 != 0) = true := bne_iff_ne.mpr c5
      simp only [Option.some.injEq, Prod.mk.injEq] at H
      obtain ⟨rfl, rfl, rfl, rfl, rfl, rfl, rfl, rfl, rfl, rfl, rfl, rfl⟩ := H
      go_enter Try.func26, Try.ntmps26
      go_wp2_with (first | ((with_reducible refine gate_dst (N := 2) rfl ?_); refine box_event ?hg (N := 2) ?hd (cs := pxAQ130_) (t := 37) ?hr ?_; (case hd => rfl); (case hg => rfl); (case hr => first | (go_simp; done) | (go_simp; rfl)); intro gb349 hg w65 hbox hb; have n0_ := Aside0.mk (below_step (by repeat (first | (with_reducible first | exact HB.out | apply below_alloc | apply pw_below_drewN | apply below_drew1) | exact HB.out)) hb); have n1_ := Aside0.mk (hbox); have n2_ := Aside0.mk ((by rw [hg]; exact (below_size (by repeat (first | (with_reducible first | exact HB.out | apply below_alloc | apply pw_below_drewN | apply below_drew1) | exact HB.out))) : w.heap.size ≤ gb349)); have n3_ := Aside0.mk ((by rw [hg]; exact (below_size (by repeat (first | (with_reducible first | exact HB.out | apply below_alloc | apply pw_below_drewN | apply below_drew1) | exact HB.out))) : w.heap.size ≤ gb349)); clear HB; have HB := n0_; have BK349 := n1_; have GW349 := n2_; have GE349 := n3_; clear n0_ n1_ n2_ n3_; clear hb hbox hg) | ((with_reducible refine gate_callee (f := 43) rfl ?_); refine goesL_ (some 15) rfl rfl Try.func43 (by kernel_rfl) rfl #[.string a0, .int .u8 114] rfl (by (try simp only [List.map_toArray, List.map_cons, List.map_nil]); first | done | rfl | (simp only [List.length_drop, List.length_take]; rfl)) ?_; (with_reducible refine (copyholdref15_begun.calls k a0 114 t350 t351 _ A2.out).mono ?_); rintro e w66 ⟨rfl, hb⟩; refine ⟨_, rfl, ?_⟩; have n0_ := Aside0.mk (blk_below (g := gb349) (o := .cells pxAQ130_ 37 (0, 0)) (by (with_reducible repeat (first | refine blk_drewN ?_ _ | refine blk_drew ?_ | refine blk_alloc ?_ _)); exact BK349.out) hb); have n1_ := Aside0.mk (below_step (by repeat (first | (with_reducible first | exact HB.out | apply below_alloc | apply pw_below_drewN | apply below_drew1 | refine below_set ?_ GE349.out) | exact HB.out)) hb); clear BK349; clear HB; have BK349 := n0_; have HB := n1_; clear n0_ n1_; (try clear hb); (try clear hb2); (try clear hk); (try clear hi)) | ((with_reducible refine gate_callee (f := 38) rfl ?_); refine goesL_ (some 24) rfl rfl Try.func38 (by kernel_rfl) rfl #[.string t350, .int .i64 9] rfl (by (try simp only [List.map_toArray, List.map_cons, List.map_nil]); first | done | rfl | (simp only [List.length_drop, List.length_take]; rfl)) ?_; (with_reducible refine (copyholdref15_numbers.calls k t350 9 t352 t353 t354 _ A4.out).mono ?_); rintro e w67 ⟨v355, rfl, ho0, hb⟩; refine ⟨_, rfl, ?_⟩; have n0_ := Aside0.mk (Kd.R_lower ho0 (below_size (by repeat (first | (with_reducible first | exact HB.out | apply below_alloc | apply pw_below_drewN | apply below_drew1 | refine below_set ?_ GE349.out) | exact HB.out)))); have n1_ := Aside0.mk (blk_below (g := gb349) (o := .cells pxAQ130_ 37 (0, 0)) (by (with_reducible repeat (first | refine blk_drewN ?_ _ | refine blk_drew ?_ | refine blk_alloc ?_ _)); exact BK349.out) hb); have n2_ := Aside0.mk (below_step (by repeat (first | (with_reducible first | exact HB.out | apply below_alloc | apply pw_below_drewN | apply below_drew1 | refine below_set ?_ GE349.out) | exact HB.out)) hb); clear BK349; clear HB; have HO356 := n0_; have BK349 := n1_; have HB := n2_; clear n0_ n1_ n2_; (try clear hb); (try clear hb2); (try clear hk); (try clear hi); (try clear ho0); pxhQ13_ hcz68_0 w67 gb349 0 (.int .i64 0) BK349; pxhQ13_ hcz68_1 w67 gb349 1 (.int .i64 0) BK349; pxhQ13_ hcz68_2 w67 gb349 2 (.int .i64 0) BK349; pxhQ13_ hcz68_3 w67 gb349 3 (.int .i64 0) BK349; pxhQ13_ hcz68_4 w67 gb349 4 (.int .i64 0) BK349; pxhQ13_ hcz68_5 w67 gb349 5 (.int .i64 0) BK349; pxhQ13_ hcz68_6 w67 gb349 6 (.int .i64 0) BK349; pxhQ13_ hcz68_7 w67 gb349 7 (.int .i64 0) BK349; pxhQ13_ hcz68_8 w67 gb349 8 (.int .i64 0) BK349; pxhQ13_ hcz68_9 w67 gb349 9 (.string (⟨#[]⟩ : ByteArray)) BK349; pxhQ13_ hcz68_10 w67 gb349 10 (.slice none 0 0) BK349; pxfQ13_ hfz68_0 BK349 0; pxfQ13_ hfz68_1 BK349 1; pxfQ13_ hfz68_2 BK349 2; pxfQ13_ hfz68_3 BK349 3; pxfQ13_ hfz68_4 BK349 4; pxfQ13_ hfz68_5 BK349 5; pxfQ13_ hfz68_6 BK349 6; pxfQ13_ hfz68_7 BK349 7; pxfQ13_ hfz68_8 BK349 8; pxfQ13_ hfz68_9 BK349 9; pxfQ13_ hfz68_10 BK349 10))
      pxLQ130_
      pxLQ131_
  · rw [if_neg c3] at H
    have c3b0 : (t351 == 0) = false := beq_eq_false_iff_ne.mpr c3
    have c3b1 : (t351 != 0) = true := bne_iff_ne.mpr c3
    simp only [Option.some.injEq, Prod.mk.injEq] at H
    obtain ⟨rfl, rfl, rfl, rfl, rfl, rfl, rfl, rfl, rfl, rfl, rfl, rfl⟩ := H
    go_enter Try.func26, Try.ntmps26
    go_wp2_with (first | ((with_reducible refine gate_dst (N := 2) rfl ?_); refine box_event ?hg (N := 2) ?hd (cs := pxAQ130_) (t := 37) ?hr ?_; (case hd => rfl); (case hg => rfl); (case hr => first | (go_simp; done) | (go_simp; rfl)); intro gb349 hg w69 hbox hb; have n0_ := Aside0.mk (below_step (by repeat (first | (with_reducible first | exact HB.out | apply below_alloc | apply pw_below_drewN | apply below_drew1) | exact HB.out)) hb); have n1_ := Aside0.mk (hbox); have n2_ := Aside0.mk ((by rw [hg]; exact (below_size (by repeat (first | (with_reducible first | exact HB.out | apply below_alloc | apply pw_below_drewN | apply below_drew1) | exact HB.out))) : w.heap.size ≤ gb349)); have n3_ := Aside0.mk ((by rw [hg]; exact (below_size (by repeat (first | (with_reducible first | exact HB.out | apply below_alloc | apply pw_below_drewN | apply below_drew1) | exact HB.out))) : w.heap.size ≤ gb349)); clear HB; have HB := n0_; have BK349 := n1_; have GW349 := n2_; have GE349 := n3_; clear n0_ n1_ n2_ n3_; clear hb hbox hg) | ((with_reducible refine gate_callee (f := 43) rfl ?_); refine goesL_ (some 15) rfl rfl Try.func43 (by kernel_rfl) rfl #[.string a0, .int .u8 114] rfl (by (try simp only [List.map_toArray, List.map_cons, List.map_nil]); first | done | rfl | (simp only [List.length_drop, List.length_take]; rfl)) ?_; (with_reducible refine (copyholdref15_begun.calls k a0 114 t350 t351 _ A2.out).mono ?_); rintro e w70 ⟨rfl, hb⟩; refine ⟨_, rfl, ?_⟩; have n0_ := Aside0.mk (blk_below (g := gb349) (o := .cells pxAQ130_ 37 (0, 0)) (by (with_reducible repeat (first | refine blk_drewN ?_ _ | refine blk_drew ?_ | refine blk_alloc ?_ _)); exact BK349.out) hb); have n1_ := Aside0.mk (below_step (by repeat (first | (with_reducible first | exact HB.out | apply below_alloc | apply pw_below_drewN | apply below_drew1 | refine below_set ?_ GE349.out) | exact HB.out)) hb); clear BK349; clear HB; have BK349 := n0_; have HB := n1_; clear n0_ n1_; (try clear hb); (try clear hb2); (try clear hk); (try clear hi); pxhQ13_ hcz71_0 w70 gb349 0 (.int .i64 0) BK349; pxhQ13_ hcz71_1 w70 gb349 1 (.int .i64 0) BK349; pxhQ13_ hcz71_2 w70 gb349 2 (.int .i64 0) BK349; pxhQ13_ hcz71_3 w70 gb349 3 (.int .i64 0) BK349; pxhQ13_ hcz71_4 w70 gb349 4 (.int .i64 0) BK349; pxhQ13_ hcz71_5 w70 gb349 5 (.int .i64 0) BK349; pxhQ13_ hcz71_6 w70 gb349 6 (.int .i64 0) BK349; pxhQ13_ hcz71_7 w70 gb349 7 (.int .i64 0) BK349; pxhQ13_ hcz71_8 w70 gb349 8 (.int .i64 0) BK349; pxhQ13_ hcz71_9 w70 gb349 9 (.string (⟨#[]⟩ : ByteArray)) BK349; pxhQ13_ hcz71_10 w70 gb349 10 (.slice none 0 0) BK349; pxfQ13_ hfz71_0 BK349 0; pxfQ13_ hfz71_1 BK349 1; pxfQ13_ hfz71_2 BK349 2; pxfQ13_ hfz71_3 BK349 3; pxfQ13_ hfz71_4 BK349 4; pxfQ13_ hfz71_5 BK349 5; pxfQ13_ hfz71_6 BK349 6; pxfQ13_ hfz71_7 BK349 7; pxfQ13_ hfz71_8 BK349 8; pxfQ13_ hfz71_9 BK349 9; pxfQ13_ hfz71_10 BK349 10))
    pxLQ130_
    pxLQ131_

end Go.Proofs.Ytgnmhbkialgeaaa.Q
end

section
/- The machine's side of laws of this seat: Go functions as Lean functions, and the proof that a call of each comes to what its function says (written by a program of this session, px.py, that runs the kit's print). -/
namespace Go.Proofs.Ytgnmhbkialgeaaa.Q
open Go.RowKit Go.Proofs.YtgnmhbkialgeaaaW.PrintWords Go.Proofs.YtgnmhbkialgeaaaW.PrintLast Go.Proofs.YtgnmhbkialgeaaaW.PrintMore
attribute [local go_sem] max2_int min2_int max_two min_two max_three min_three max_four min_four   -- for this text's walks alone
attribute [local go_sem high] Go.Proofs.Ytgnmhbkialgeaaa.px_xor_u8 Go.Proofs.Ytgnmhbkialgeaaa.px_xor_u16 Go.Proofs.Ytgnmhbkialgeaaa.px_xor_u32 Go.Proofs.Ytgnmhbkialgeaaa.px_xor_u64
set_option linter.unusedVariables false
set_option linter.unusedSimpArgs false

attribute [local go_sem high] eqA23 eqA32
set_option hygiene false in
local macro "pxAQ140_" : term => `(#[.int .i64 0, .int .i64 0, .int .i64 0, .int .i64 0, .int .i64 0, .int .i64 0, .int .i64 0, .int .i64 0, .int .i64 0, .int .i64 0, .int .i64 0, .string (⟨#[]⟩ : ByteArray), .string (⟨#[]⟩ : ByteArray), .string (⟨#[]⟩ : ByteArray)])
set_option hygiene false in
local macro "pxAQ141_" : term => `(#[.int .i64 t398, .int .i64 t399, .int .i64 t400, .int .i64 t401, .int .i64 t402, .int .i64 t403, .int .i64 t404, .int .i64 t405, .int .i64 t406, .int .i64 t407, .int .i64 t408, .string t409, .string t410, .string t411])
set_option hygiene false in
local macro "pxAQ142_" : term => `(#[.int .i64 t414, .int .i64 t415, .int .i64 t416, .int .i64 t417, .int .i64 t418, .int .i64 t419, .int .i64 t420, .int .i64 t421, .int .i64 t422, .int .i64 t423, .int .i64 t424, .string t425, .string t426, .string t427])
set_option hygiene false in
local macro "pxAQ143_" : term => `(#[.int .i64 t430, .int .i64 t431, .int .i64 t432, .int .i64 t433, .int .i64 t434, .int .i64 t435, .int .i64 t436, .int .i64 t437, .int .i64 t438, .string t439, .slice Ao45 t440.length co45])
set_option hygiene false in
local macro "pxAQ144_" : term => `(#[.int .i64 0, .int .i64 0, .int .i64 0, .int .i64 0, .int .i64 0, .int .i64 0, .int .i64 0, .int .i64 0, .int .i64 0, .string (⟨#[]⟩ : ByteArray), .slice none 0 0])
set_option hygiene false in
local macro "pxAQ145_" : term => `(#[.int .i64 0, .int .i64 0, .int .i64 0, .int .i64 0, .int .i64 0, .string (⟨#[]⟩ : ByteArray), .string (⟨#[]⟩ : ByteArray), .string (⟨#[]⟩ : ByteArray)])
set_option hygiene false in
local macro "pxAQ146_" : term => `(#[.int .i64 t376, .int .i64 t377, .int .i64 t378, .int .i64 t379, .int .i64 t380, .string t381, .string t382, .string t383])
set_option hygiene false in
local macro "pxAQ147_" : term => `(#[.int .i64 t387, .int .i64 t388, .int .i64 t389, .int .i64 t390, .int .i64 t391, .string t392, .string t393, .string t394])
local macro "pxhQ14_" h:ident w:ident g:ident i:num v:term:max b:ident : tactic => `(tactic| have $h : ($w).cell? ⟨$g, $i, none⟩ = some $v := (blk_cell ($b).out $i).trans rfl)
local macro "pxfQ14_" h:ident b:ident i:num : tactic => `(tactic| have $h := blk_frozen ($b).out $i)
set_option hygiene false in
local macro "pxLQ140_" : tactic => `(tactic| (have H1 : (none) = some r := by rw [if_neg (show ¬ (false = true) by decide)] at H; exact H))
/-! ### copyholdlaw15_WireTakes: function 6 -/
def copyholdlaw15_WireTakes.f (k : Nat) (a0 : ByteArray) : Option (Bool) := (copyholdlaw15_shown.f).bind fun t375 => (if (a0.size : Int) > 6000 then (some t375) else ((wire_TakeCall.f a0).bind fun bt376 => ((copyholdref15_TakeCall.f k a0).bind fun bt387 => ((wire_TakeMsg.f a0).bind fun bt398 => ((copyholdref15_TakeMsg.f k a0).bind fun bt414 => ((wire_TakeRsp.f a0).bind fun bt430 => ((copyholdref15_TakeRsp.f k a0).bind fun bt445 => ((copyholdref15_Same.f k bt430.1 bt430.2.1 bt430.2.2.1 bt430.2.2.2.1 bt430.2.2.2.2.1 bt430.2.2.2.2.2.1 bt430.2.2.2.2.2.2.1 bt430.2.2.2.2.2.2.2.1 bt430.2.2.2.2.2.2.2.2.1 bt430.2.2.2.2.2.2.2.2.2.1 bt430.2.2.2.2.2.2.2.2.2.2.1 bt445.1 bt445.2.1 bt445.2.2.1 bt445.2.2.2.1 bt445.2.2.2.2.1 bt445.2.2.2.2.2.1 bt445.2.2.2.2.2.2.1 bt445.2.2.2.2.2.2.2.1 bt445.2.2.2.2.2.2.2.2.1 bt445.2.2.2.2.2.2.2.2.2.1 bt445.2.2.2.2.2.2.2.2.2.2.1).bind fun t460 => (if t375 = true then (if t460 = true then (if (bt376.1 == bt387.1 && (bt376.2.1 == bt387.2.1 && (bt376.2.2.1 == bt387.2.2.1 && (bt376.2.2.2.1 == bt387.2.2.2.1 && (bt376.2.2.2.2.1 == bt387.2.2.2.2.1 && (bt376.2.2.2.2.2.1.toList == bt387.2.2.2.2.2.1.toList && (bt376.2.2.2.2.2.2.1.toList == bt387.2.2.2.2.2.2.1.toList && (bt376.2.2.2.2.2.2.2.1.toList == bt387.2.2.2.2.2.2.2.1.toList)))))))) = true then (if bt376.2.2.2.2.2.2.2.2.1.toList = bt387.2.2.2.2.2.2.2.2.1.toList then (if bt376.2.2.2.2.2.2.2.2.2 = bt387.2.2.2.2.2.2.2.2.2 then (if (bt398.1 == bt414.1 && (bt398.2.1 == bt414.2.1 && (bt398.2.2.1 == bt414.2.2.1 && (bt398.2.2.2.1 == bt414.2.2.2.1 && (bt398.2.2.2.2.1 == bt414.2.2.2.2.1 && (bt398.2.2.2.2.2.1 == bt414.2.2.2.2.2.1 && ((bt398.2.2.2.2.2.2.1 == bt414.2.2.2.2.2.2.1 && (bt398.2.2.2.2.2.2.2.1 == bt414.2.2.2.2.2.2.2.1 && (bt398.2.2.2.2.2.2.2.2.1 == bt414.2.2.2.2.2.2.2.2.1 && (bt398.2.2.2.2.2.2.2.2.2.1 == bt414.2.2.2.2.2.2.2.2.2.1 && (bt398.2.2.2.2.2.2.2.2.2.2.1 == bt414.2.2.2.2.2.2.2.2.2.2.1 && (bt398.2.2.2.2.2.2.2.2.2.2.2.1.toList == bt414.2.2.2.2.2.2.2.2.2.2.2.1.toList && (bt398.2.2.2.2.2.2.2.2.2.2.2.2.1.toList == bt414.2.2.2.2.2.2.2.2.2.2.2.2.1.toList && (bt398.2.2.2.2.2.2.2.2.2.2.2.2.2.1.toList == bt414.2.2.2.2.2.2.2.2.2.2.2.2.2.1.toList))))))))))))))) = true then (if bt398.2.2.2.2.2.2.2.2.2.2.2.2.2.2 = bt414.2.2.2.2.2.2.2.2.2.2.2.2.2.2 then (some (bt430.2.2.2.2.2.2.2.2.2.2.2 == bt445.2.2.2.2.2.2.2.2.2.2.2)) else (none)) else (none)) else (none)) else (none)) else (none)) else (none)) else (none))))))))))
theorem copyholdlaw15_WireTakes.mono : ∀ a0 k, LeO (copyholdlaw15_WireTakes.f k a0) (copyholdlaw15_WireTakes.f (k + 1) a0) := by
  intro a0 k
  unfold copyholdlaw15_WireTakes.f
  repeat' first
      | (with_reducible exact copyholdref15_Same.mono _ _ _ _ _ _ _ _ _ _ _ _ _ _ _ _ _ _ _ _ _ _ _)
      | (with_reducible exact copyholdref15_TakeCall.mono _ _)
      | (with_reducible exact copyholdref15_TakeMsg.mono _ _)
      | (with_reducible exact copyholdref15_TakeRsp.mono _ _)
      | (with_reducible exact LeO.refl _)
      | (with_reducible exact LeO.none _)
      | (with_reducible refine LeO.ite ?_ ?_)
      | (with_reducible refine LeO.bind ?_ (fun _ => ?_))
      | exact copyholdref15_Same.mono _ _ _ _ _ _ _ _ _ _ _ _ _ _ _ _ _ _ _ _ _ _ _
      | exact copyholdref15_TakeCall.mono _ _
      | exact copyholdref15_TakeMsg.mono _ _
      | exact copyholdref15_TakeRsp.mono _ _
      | exact LeO.none _
      | refine LeO.ite ?_ ?_
      | refine LeO.bind ?_ (fun _ => ?_)
set_option maxHeartbeats 8000000 in
set_option maxRecDepth 100000 in
theorem copyholdlaw15_WireTakes.calls (k : Nat) (a0 : ByteArray) (r : Bool) (w : World) (h : copyholdlaw15_WireTakes.f k a0 = some r) :
    Calls Try.prog 6 #[.string a0] w fun e w' => e = .returned (.bool r) ∧ Below w.heap.size w w' := by
  have hu23 := Try.underlying23
  have hu32 := Try.underlying32
  have hu37 := Try.underlying37
  have HB := Aside0.mk (Below.refl w.heap.size w)
  have H : ((copyholdlaw15_shown.f).bind fun t375 => (if (a0.size : Int) > 6000 then (some t375) else ((wire_TakeCall.f a0).bind fun bt376 => ((copyholdref15_TakeCall.f k a0).bind fun bt387 => ((wire_TakeMsg.f a0).bind fun bt398 => ((copyholdref15_TakeMsg.f k a0).bind fun bt414 => ((wire_TakeRsp.f a0).bind fun bt430 => ((copyholdref15_TakeRsp.f k a0).bind fun bt445 => ((copyholdref15_Same.f k bt430.1 bt430.2.1 bt430.2.2.1 bt430.2.2.2.1 bt430.2.2.2.2.1 bt430.2.2.2.2.2.1 bt430.2.2.2.2.2.2.1 bt430.2.2.2.2.2.2.2.1 bt430.2.2.2.2.2.2.2.2.1 bt430.2.2.2.2.2.2.2.2.2.1 bt430.2.2.2.2.2.2.2.2.2.2.1 bt445.1 bt445.2.1 bt445.2.2.1 bt445.2.2.2.1 bt445.2.2.2.2.1 bt445.2.2.2.2.2.1 bt445.2.2.2.2.2.2.1 bt445.2.2.2.2.2.2.2.1 bt445.2.2.2.2.2.2.2.2.1 bt445.2.2.2.2.2.2.2.2.2.1 bt445.2.2.2.2.2.2.2.2.2.2.1).bind fun t460 => (if t375 = true then (if t460 = true then (if (bt376.1 == bt387.1 && (bt376.2.1 == bt387.2.1 && (bt376.2.2.1 == bt387.2.2.1 && (bt376.2.2.2.1 == bt387.2.2.2.1 && (bt376.2.2.2.2.1 == bt387.2.2.2.2.1 && (bt376.2.2.2.2.2.1.toList == bt387.2.2.2.2.2.1.toList && (bt376.2.2.2.2.2.2.1.toList == bt387.2.2.2.2.2.2.1.toList && (bt376.2.2.2.2.2.2.2.1.toList == bt387.2.2.2.2.2.2.2.1.toList)))))))) = true then (if bt376.2.2.2.2.2.2.2.2.1.toList = bt387.2.2.2.2.2.2.2.2.1.toList then (if bt376.2.2.2.2.2.2.2.2.2 = bt387.2.2.2.2.2.2.2.2.2 then (if (bt398.1 == bt414.1 && (bt398.2.1 == bt414.2.1 && (bt398.2.2.1 == bt414.2.2.1 && (bt398.2.2.2.1 == bt414.2.2.2.1 && (bt398.2.2.2.2.1 == bt414.2.2.2.2.1 && (bt398.2.2.2.2.2.1 == bt414.2.2.2.2.2.1 && ((bt398.2.2.2.2.2.2.1 == bt414.2.2.2.2.2.2.1 && (bt398.2.2.2.2.2.2.2.1 == bt414.2.2.2.2.2.2.2.1 && (bt398.2.2.2.2.2.2.2.2.1 == bt414.2.2.2.2.2.2.2.2.1 && (bt398.2.2.2.2.2.2.2.2.2.1 == bt414.2.2.2.2.2.2.2.2.2.1 && (bt398.2.2.2.2.2.2.2.2.2.2.1 == bt414.2.2.2.2.2.2.2.2.2.2.1 && (bt398.2.2.2.2.2.2.2.2.2.2.2.1.toList == bt414.2.2.2.2.2.2.2.2.2.2.2.1.toList && (bt398.2.2.2.2.2.2.2.2.2.2.2.2.1.toList == bt414.2.2.2.2.2.2.2.2.2.2.2.2.1.toList && (bt398.2.2.2.2.2.2.2.2.2.2.2.2.2.1.toList == bt414.2.2.2.2.2.2.2.2.2.2.2.2.2.1.toList))))))))))))))) = true then (if bt398.2.2.2.2.2.2.2.2.2.2.2.2.2.2 = bt414.2.2.2.2.2.2.2.2.2.2.2.2.2.2 then (some (bt430.2.2.2.2.2.2.2.2.2.2.2 == bt445.2.2.2.2.2.2.2.2.2.2.2)) else (none)) else (none)) else (none)) else (none)) else (none)) else (none)) else (none))))))))))) = some r := h
  clear h
  replace H := Option.bind_eq_some_iff.mp H
  obtain ⟨t375, A20, H⟩ := H
  replace H : (if (a0.size : Int) > 6000 then (some t375) else ((wire_TakeCall.f a0).bind fun bt376 => ((copyholdref15_TakeCall.f k a0).bind fun bt387 => ((wire_TakeMsg.f a0).bind fun bt398 => ((copyholdref15_TakeMsg.f k a0).bind fun bt414 => ((wire_TakeRsp.f a0).bind fun bt430 => ((copyholdref15_TakeRsp.f k a0).bind fun bt445 => ((copyholdref15_Same.f k bt430.1 bt430.2.1 bt430.2.2.1 bt430.2.2.2.1 bt430.2.2.2.2.1 bt430.2.2.2.2.2.1 bt430.2.2.2.2.2.2.1 bt430.2.2.2.2.2.2.2.1 bt430.2.2.2.2.2.2.2.2.1 bt430.2.2.2.2.2.2.2.2.2.1 bt430.2.2.2.2.2.2.2.2.2.2.1 bt445.1 bt445.2.1 bt445.2.2.1 bt445.2.2.2.1 bt445.2.2.2.2.1 bt445.2.2.2.2.2.1 bt445.2.2.2.2.2.2.1 bt445.2.2.2.2.2.2.2.1 bt445.2.2.2.2.2.2.2.2.1 bt445.2.2.2.2.2.2.2.2.2.1 bt445.2.2.2.2.2.2.2.2.2.2.1).bind fun t460 => (if t375 = true then (if t460 = true then (if (bt376.1 == bt387.1 && (bt376.2.1 == bt387.2.1 && (bt376.2.2.1 == bt387.2.2.1 && (bt376.2.2.2.1 == bt387.2.2.2.1 && (bt376.2.2.2.2.1 == bt387.2.2.2.2.1 && (bt376.2.2.2.2.2.1.toList == bt387.2.2.2.2.2.1.toList && (bt376.2.2.2.2.2.2.1.toList == bt387.2.2.2.2.2.2.1.toList && (bt376.2.2.2.2.2.2.2.1.toList == bt387.2.2.2.2.2.2.2.1.toList)))))))) = true then (if bt376.2.2.2.2.2.2.2.2.1.toList = bt387.2.2.2.2.2.2.2.2.1.toList then (if bt376.2.2.2.2.2.2.2.2.2 = bt387.2.2.2.2.2.2.2.2.2 then (if (bt398.1 == bt414.1 && (bt398.2.1 == bt414.2.1 && (bt398.2.2.1 == bt414.2.2.1 && (bt398.2.2.2.1 == bt414.2.2.2.1 && (bt398.2.2.2.2.1 == bt414.2.2.2.2.1 && (bt398.2.2.2.2.2.1 == bt414.2.2.2.2.2.1 && ((bt398.2.2.2.2.2.2.1 == bt414.2.2.2.2.2.2.1 && (bt398.2.2.2.2.2.2.2.1 == bt414.2.2.2.2.2.2.2.1 && (bt398.2.2.2.2.2.2.2.2.1 == bt414.2.2.2.2.2.2.2.2.1 && (bt398.2.2.2.2.2.2.2.2.2.1 == bt414.2.2.2.2.2.2.2.2.2.1 && (bt398.2.2.2.2.2.2.2.2.2.2.1 == bt414.2.2.2.2.2.2.2.2.2.2.1 && (bt398.2.2.2.2.2.2.2.2.2.2.2.1.toList == bt414.2.2.2.2.2.2.2.2.2.2.2.1.toList && (bt398.2.2.2.2.2.2.2.2.2.2.2.2.1.toList == bt414.2.2.2.2.2.2.2.2.2.2.2.2.1.toList && (bt398.2.2.2.2.2.2.2.2.2.2.2.2.2.1.toList == bt414.2.2.2.2.2.2.2.2.2.2.2.2.2.1.toList))))))))))))))) = true then (if bt398.2.2.2.2.2.2.2.2.2.2.2.2.2.2 = bt414.2.2.2.2.2.2.2.2.2.2.2.2.2.2 then (some (bt430.2.2.2.2.2.2.2.2.2.2.2 == bt445.2.2.2.2.2.2.2.2.2.2.2)) else (none)) else (none)) else (none)) else (none)) else (none)) else (none)) else (none)))))))))) = some r := H
  have A2 := Aside0.mk A20
  clear A20
  by_cases c3 : (a0.size : Int) > 6000
  · rw [if_pos c3] at H
    have c3b0 : decide (6000 < (a0.size : Int)) = true := decide_eq_true c3
    have c3b1 : decide (6000 < a0.size) = true := decide_eq_true (by omega)
    clear c3
    obtain rfl := Option.some.inj H
    go_enter Try.func6, Try.ntmps6
    go_wp2_with (first | ((with_reducible refine gate_callee (f := 10) rfl ?_); refine goesL_ (some 19) rfl rfl Try.func10 (by kernel_rfl) rfl #[] rfl (by (try simp only [List.map_toArray, List.map_cons, List.map_nil]); first | done | rfl | (simp only [List.length_drop, List.length_take]; rfl)) ?_; (with_reducible refine (copyholdlaw15_shown.calls  t375 _ A2.out).mono ?_); rintro e w4 ⟨rfl, hb⟩; refine ⟨_, rfl, ?_⟩; have n0_ := Aside0.mk (below_step (by repeat (first | (with_reducible first | exact HB.out | apply below_alloc | apply pw_below_drewN | apply below_drew1) | exact HB.out)) hb); clear HB; have HB := n0_; clear n0_; (try clear hb); (try clear hb2); (try clear hk); (try clear hi)))
    go_ret
    exact ⟨by first | rfl | (simp [errW_none, errW_some] <;> rfl) | (simp [*, errW_none, errW_some] <;> rfl), by repeat (first | (with_reducible first | exact HB.out | apply below_alloc | apply pw_below_drewN | apply below_drew1) | exact HB.out)⟩
  · rw [if_neg c3] at H
    have c3b0 : decide (6000 < (a0.size : Int)) = false := decide_eq_false c3
    have c3b1 : decide (6000 < a0.size) = false := decide_eq_false (by omega)
    clear c3
    replace H := Option.bind_eq_some_iff.mp H
    obtain ⟨⟨t376, t377, t378, t379, t380, t381, t382, t383, t384, t385⟩, A50, H⟩ := H
    replace H : ((copyholdref15_TakeCall.f k a0).bind fun bt387 => ((wire_TakeMsg.f a0).bind fun bt398 => ((copyholdref15_TakeMsg.f k a0).bind fun bt414 => ((wire_TakeRsp.f a0).bind fun bt430 => ((copyholdref15_TakeRsp.f k a0).bind fun bt445 => ((copyholdref15_Same.f k bt430.1 bt430.2.1 bt430.2.2.1 bt430.2.2.2.1 bt430.2.2.2.2.1 bt430.2.2.2.2.2.1 bt430.2.2.2.2.2.2.1 bt430.2.2.2.2.2.2.2.1 bt430.2.2.2.2.2.2.2.2.1 bt430.2.2.2.2.2.2.2.2.2.1 bt430.2.2.2.2.2.2.2.2.2.2.1 bt445.1 bt445.2.1 bt445.2.2.1 bt445.2.2.2.1 bt445.2.2.2.2.1 bt445.2.2.2.2.2.1 bt445.2.2.2.2.2.2.1 bt445.2.2.2.2.2.2.2.1 bt445.2.2.2.2.2.2.2.2.1 bt445.2.2.2.2.2.2.2.2.2.1 bt445.2.2.2.2.2.2.2.2.2.2.1).bind fun t460 => (if t375 = true then (if t460 = true then (if (t376 == bt387.1 && (t377 == bt387.2.1 && (t378 == bt387.2.2.1 && (t379 == bt387.2.2.2.1 && (t380 == bt387.2.2.2.2.1 && (t381.toList == bt387.2.2.2.2.2.1.toList && (t382.toList == bt387.2.2.2.2.2.2.1.toList && (t383.toList == bt387.2.2.2.2.2.2.2.1.toList)))))))) = true then (if t384.toList = bt387.2.2.2.2.2.2.2.2.1.toList then (if t385 = bt387.2.2.2.2.2.2.2.2.2 then (if (bt398.1 == bt414.1 && (bt398.2.1 == bt414.2.1 && (bt398.2.2.1 == bt414.2.2.1 && (bt398.2.2.2.1 == bt414.2.2.2.1 && (bt398.2.2.2.2.1 == bt414.2.2.2.2.1 && (bt398.2.2.2.2.2.1 == bt414.2.2.2.2.2.1 && ((bt398.2.2.2.2.2.2.1 == bt414.2.2.2.2.2.2.1 && (bt398.2.2.2.2.2.2.2.1 == bt414.2.2.2.2.2.2.2.1 && (bt398.2.2.2.2.2.2.2.2.1 == bt414.2.2.2.2.2.2.2.2.1 && (bt398.2.2.2.2.2.2.2.2.2.1 == bt414.2.2.2.2.2.2.2.2.2.1 && (bt398.2.2.2.2.2.2.2.2.2.2.1 == bt414.2.2.2.2.2.2.2.2.2.2.1 && (bt398.2.2.2.2.2.2.2.2.2.2.2.1.toList == bt414.2.2.2.2.2.2.2.2.2.2.2.1.toList && (bt398.2.2.2.2.2.2.2.2.2.2.2.2.1.toList == bt414.2.2.2.2.2.2.2.2.2.2.2.2.1.toList && (bt398.2.2.2.2.2.2.2.2.2.2.2.2.2.1.toList == bt414.2.2.2.2.2.2.2.2.2.2.2.2.2.1.toList))))))))))))))) = true then (if bt398.2.2.2.2.2.2.2.2.2.2.2.2.2.2 = bt414.2.2.2.2.2.2.2.2.2.2.2.2.2.2 then (some (bt430.2.2.2.2.2.2.2.2.2.2.2 == bt445.2.2.2.2.2.2.2.2.2.2.2)) else (none)) else (none)) else (none)) else (none)) else (none)) else (none)) else (none)))))))) = some r := H
    have A5 := Aside0.mk A50
    clear A50
    replace H := Option.bind_eq_some_iff.mp H
    obtain ⟨⟨t387, t388, t389, t390, t391, t392, t393, t394, t395, t396⟩, A60, H⟩ := H
    replace H : ((wire_TakeMsg.f a0).bind fun bt398 => ((copyholdref15_TakeMsg.f k a0).bind fun bt414 => ((wire_TakeRsp.f a0).bind fun bt430 => ((copyholdref15_TakeRsp.f k a0).bind fun bt445 => ((copyholdref15_Same.f k bt430.1 bt430.2.1 bt430.2.2.1 bt430.2.2.2.1 bt430.2.2.2.2.1 bt430.2.2.2.2.2.1 bt430.2.2.2.2.2.2.1 bt430.2.2.2.2.2.2.2.1 bt430.2.2.2.2.2.2.2.2.1 bt430.2.2.2.2.2.2.2.2.2.1 bt430.2.2.2.2.2.2.2.2.2.2.1 bt445.1 bt445.2.1 bt445.2.2.1 bt445.2.2.2.1 bt445.2.2.2.2.1 bt445.2.2.2.2.2.1 bt445.2.2.2.2.2.2.1 bt445.2.2.2.2.2.2.2.1 bt445.2.2.2.2.2.2.2.2.1 bt445.2.2.2.2.2.2.2.2.2.1 bt445.2.2.2.2.2.2.2.2.2.2.1).bind fun t460 => (if t375 = true then (if t460 = true then (if (t376 == t387 && (t377 == t388 && (t378 == t389 && (t379 == t390 && (t380 == t391 && (t381.toList == t392.toList && (t382.toList == t393.toList && (t383.toList == t394.toList)))))))) = true then (if t384.toList = t395.toList then (if t385 = t396 then (if (bt398.1 == bt414.1 && (bt398.2.1 == bt414.2.1 && (bt398.2.2.1 == bt414.2.2.1 && (bt398.2.2.2.1 == bt414.2.2.2.1 && (bt398.2.2.2.2.1 == bt414.2.2.2.2.1 && (bt398.2.2.2.2.2.1 == bt414.2.2.2.2.2.1 && ((bt398.2.2.2.2.2.2.1 == bt414.2.2.2.2.2.2.1 && (bt398.2.2.2.2.2.2.2.1 == bt414.2.2.2.2.2.2.2.1 && (bt398.2.2.2.2.2.2.2.2.1 == bt414.2.2.2.2.2.2.2.2.1 && (bt398.2.2.2.2.2.2.2.2.2.1 == bt414.2.2.2.2.2.2.2.2.2.1 && (bt398.2.2.2.2.2.2.2.2.2.2.1 == bt414.2.2.2.2.2.2.2.2.2.2.1 && (bt398.2.2.2.2.2.2.2.2.2.2.2.1.toList == bt414.2.2.2.2.2.2.2.2.2.2.2.1.toList && (bt398.2.2.2.2.2.2.2.2.2.2.2.2.1.toList == bt414.2.2.2.2.2.2.2.2.2.2.2.2.1.toList && (bt398.2.2.2.2.2.2.2.2.2.2.2.2.2.1.toList == bt414.2.2.2.2.2.2.2.2.2.2.2.2.2.1.toList))))))))))))))) = true then (if bt398.2.2.2.2.2.2.2.2.2.2.2.2.2.2 = bt414.2.2.2.2.2.2.2.2.2.2.2.2.2.2 then (some (bt430.2.2.2.2.2.2.2.2.2.2.2 == bt445.2.2.2.2.2.2.2.2.2.2.2)) else (none)) else (none)) else (none)) else (none)) else (none)) else (none)) else (none))))))) = some r := H
    have A6 := Aside0.mk A60
    clear A60
    replace H := Option.bind_eq_some_iff.mp H
    obtain ⟨⟨t398, t399, t400, t401, t402, t403, t404, t405, t406, t407, t408, t409, t410, t411, t412⟩, A70, H⟩ := H
    replace H : ((copyholdref15_TakeMsg.f k a0).bind fun bt414 => ((wire_TakeRsp.f a0).bind fun bt430 => ((copyholdref15_TakeRsp.f k a0).bind fun bt445 => ((copyholdref15_Same.f k bt430.1 bt430.2.1 bt430.2.2.1 bt430.2.2.2.1 bt430.2.2.2.2.1 bt430.2.2.2.2.2.1 bt430.2.2.2.2.2.2.1 bt430.2.2.2.2.2.2.2.1 bt430.2.2.2.2.2.2.2.2.1 bt430.2.2.2.2.2.2.2.2.2.1 bt430.2.2.2.2.2.2.2.2.2.2.1 bt445.1 bt445.2.1 bt445.2.2.1 bt445.2.2.2.1 bt445.2.2.2.2.1 bt445.2.2.2.2.2.1 bt445.2.2.2.2.2.2.1 bt445.2.2.2.2.2.2.2.1 bt445.2.2.2.2.2.2.2.2.1 bt445.2.2.2.2.2.2.2.2.2.1 bt445.2.2.2.2.2.2.2.2.2.2.1).bind fun t460 => (if t375 = true then (if t460 = true then (if (t376 == t387 && (t377 == t388 && (t378 == t389 && (t379 == t390 && (t380 == t391 && (t381.toList == t392.toList && (t382.toList == t393.toList && (t383.toList == t394.toList)))))))) = true then (if t384.toList = t395.toList then (if t385 = t396 then (if (t398 == bt414.1 && (t399 == bt414.2.1 && (t400 == bt414.2.2.1 && (t401 == bt414.2.2.2.1 && (t402 == bt414.2.2.2.2.1 && (t403 == bt414.2.2.2.2.2.1 && ((t404 == bt414.2.2.2.2.2.2.1 && (t405 == bt414.2.2.2.2.2.2.2.1 && (t406 == bt414.2.2.2.2.2.2.2.2.1 && (t407 == bt414.2.2.2.2.2.2.2.2.2.1 && (t408 == bt414.2.2.2.2.2.2.2.2.2.2.1 && (t409.toList == bt414.2.2.2.2.2.2.2.2.2.2.2.1.toList && (t410.toList == bt414.2.2.2.2.2.2.2.2.2.2.2.2.1.toList && (t411.toList == bt414.2.2.2.2.2.2.2.2.2.2.2.2.2.1.toList))))))))))))))) = true then (if t412 = bt414.2.2.2.2.2.2.2.2.2.2.2.2.2.2 then (some (bt430.2.2.2.2.2.2.2.2.2.2.2 == bt445.2.2.2.2.2.2.2.2.2.2.2)) else (none)) else (none)) else (none)) else (none)) else (none)) else (none)) else (none)))))) = some r := H
    have A7 := Aside0.mk A70
    clear A70
    replace H := Option.bind_eq_some_iff.mp H
    obtain ⟨⟨t414, t415, t416, t417, t418, t419, t420, t421, t422, t423, t424, t425, t426, t427, t428⟩, A80, H⟩ := H
    replace H : ((wire_TakeRsp.f a0).bind fun bt430 => ((copyholdref15_TakeRsp.f k a0).bind fun bt445 => ((copyholdref15_Same.f k bt430.1 bt430.2.1 bt430.2.2.1 bt430.2.2.2.1 bt430.2.2.2.2.1 bt430.2.2.2.2.2.1 bt430.2.2.2.2.2.2.1 bt430.2.2.2.2.2.2.2.1 bt430.2.2.2.2.2.2.2.2.1 bt430.2.2.2.2.2.2.2.2.2.1 bt430.2.2.2.2.2.2.2.2.2.2.1 bt445.1 bt445.2.1 bt445.2.2.1 bt445.2.2.2.1 bt445.2.2.2.2.1 bt445.2.2.2.2.2.1 bt445.2.2.2.2.2.2.1 bt445.2.2.2.2.2.2.2.1 bt445.2.2.2.2.2.2.2.2.1 bt445.2.2.2.2.2.2.2.2.2.1 bt445.2.2.2.2.2.2.2.2.2.2.1).bind fun t460 => (if t375 = true then (if t460 = true then (if (t376 == t387 && (t377 == t388 && (t378 == t389 && (t379 == t390 && (t380 == t391 && (t381.toList == t392.toList && (t382.toList == t393.toList && (t383.toList == t394.toList)))))))) = true then (if t384.toList = t395.toList then (if t385 = t396 then (if (t398 == t414 && (t399 == t415 && (t400 == t416 && (t401 == t417 && (t402 == t418 && (t403 == t419 && ((t404 == t420 && (t405 == t421 && (t406 == t422 && (t407 == t423 && (t408 == t424 && (t409.toList == t425.toList && (t410.toList == t426.toList && (t411.toList == t427.toList))))))))))))))) = true then (if t412 = t428 then (some (bt430.2.2.2.2.2.2.2.2.2.2.2 == bt445.2.2.2.2.2.2.2.2.2.2.2)) else (none)) else (none)) else (none)) else (none)) else (none)) else (none)) else (none))))) = some r := H
    have A8 := Aside0.mk A80
    clear A80
    replace H := Option.bind_eq_some_iff.mp H
    obtain ⟨⟨t430, t431, t432, t433, t434, t435, t436, t437, t438, t439, t440, t443⟩, A90, H⟩ := H
    replace H : ((copyholdref15_TakeRsp.f k a0).bind fun bt445 => ((copyholdref15_Same.f k t430 t431 t432 t433 t434 t435 t436 t437 t438 t439 t440 bt445.1 bt445.2.1 bt445.2.2.1 bt445.2.2.2.1 bt445.2.2.2.2.1 bt445.2.2.2.2.2.1 bt445.2.2.2.2.2.2.1 bt445.2.2.2.2.2.2.2.1 bt445.2.2.2.2.2.2.2.2.1 bt445.2.2.2.2.2.2.2.2.2.1 bt445.2.2.2.2.2.2.2.2.2.2.1).bind fun t460 => (if t375 = true then (if t460 = true then (if (t376 == t387 && (t377 == t388 && (t378 == t389 && (t379 == t390 && (t380 == t391 && (t381.toList == t392.toList && (t382.toList == t393.toList && (t383.toList == t394.toList)))))))) = true then (if t384.toList = t395.toList then (if t385 = t396 then (if (t398 == t414 && (t399 == t415 && (t400 == t416 && (t401 == t417 && (t402 == t418 && (t403 == t419 && ((t404 == t420 && (t405 == t421 && (t406 == t422 && (t407 == t423 && (t408 == t424 && (t409.toList == t425.toList && (t410.toList == t426.toList && (t411.toList == t427.toList))))))))))))))) = true then (if t412 = t428 then (some (t443 == bt445.2.2.2.2.2.2.2.2.2.2.2)) else (none)) else (none)) else (none)) else (none)) else (none)) else (none)) else (none)))) = some r := H
    have A9 := Aside0.mk A90
    clear A90
    replace H := Option.bind_eq_some_iff.mp H
    obtain ⟨⟨t445, t446, t447, t448, t449, t450, t451, t452, t453, t454, t455, t458⟩, A100, H⟩ := H
    replace H : ((copyholdref15_Same.f k t430 t431 t432 t433 t434 t435 t436 t437 t438 t439 t440 t445 t446 t447 t448 t449 t450 t451 t452 t453 t454 t455).bind fun t460 => (if t375 = true then (if t460 = true then (if (t376 == t387 && (t377 == t388 && (t378 == t389 && (t379 == t390 && (t380 == t391 && (t381.toList == t392.toList && (t382.toList == t393.toList && (t383.toList == t394.toList)))))))) = true then (if t384.toList = t395.toList then (if t385 = t396 then (if (t398 == t414 && (t399 == t415 && (t400 == t416 && (t401 == t417 && (t402 == t418 && (t403 == t419 && ((t404 == t420 && (t405 == t421 && (t406 == t422 && (t407 == t423 && (t408 == t424 && (t409.toList == t425.toList && (t410.toList == t426.toList && (t411.toList == t427.toList))))))))))))))) = true then (if t412 = t428 then (some (t443 == t458)) else (none)) else (none)) else (none)) else (none)) else (none)) else (none)) else (none))) = some r := H
    have A10 := Aside0.mk A100
    clear A100
    replace H := Option.bind_eq_some_iff.mp H
    obtain ⟨t460, A110, H⟩ := H
    replace H : (if t375 = true then (if t460 = true then (if (t376 == t387 && (t377 == t388 && (t378 == t389 && (t379 == t390 && (t380 == t391 && (t381.toList == t392.toList && (t382.toList == t393.toList && (t383.toList == t394.toList)))))))) = true then (if t384.toList = t395.toList then (if t385 = t396 then (if (t398 == t414 && (t399 == t415 && (t400 == t416 && (t401 == t417 && (t402 == t418 && (t403 == t419 && ((t404 == t420 && (t405 == t421 && (t406 == t422 && (t407 == t423 && (t408 == t424 && (t409.toList == t425.toList && (t410.toList == t426.toList && (t411.toList == t427.toList))))))))))))))) = true then (if t412 = t428 then (some (t443 == t458)) else (none)) else (none)) else (none)) else (none)) else (none)) else (none)) else (none)) = some r := H
    have A11 := Aside0.mk A110
    clear A110
    by_cases c12 : t375 = true
    · subst c12
      have H1 : (if t460 = true then (if (t376 == t387 && (t377 == t388 && (t378 == t389 && (t379 == t390 && (t380 == t391 && (t381.toList == t392.toList && (t382.toList == t393.toList && (t383.toList == t394.toList)))))))) = true then (if t384.toList = t395.toList then (if t385 = t396 then (if (t398 == t414 && (t399 == t415 && (t400 == t416 && (t401 == t417 && (t402 == t418 && (t403 == t419 && ((t404 == t420 && (t405 == t421 && (t406 == t422 && (t407 == t423 && (t408 == t424 && (t409.toList == t425.toList && (t410.toList == t426.toList && (t411.toList == t427.toList))))))))))))))) = true then (if t412 = t428 then (some (t443 == t458)) else (none)) else (none)) else (none)) else (none)) else (none)) else (none)) = some r := by rw [if_pos rfl] at H; exact H
      clear H
      have H := H1
      clear H1
      by_cases c13 : t460 = true
      · subst c13
        have H1 : (if (t376 == t387 && (t377 == t388 && (t378 == t389 && (t379 == t390 && (t380 == t391 && (t381.toList == t392.toList && (t382.toList == t393.toList && (t383.toList == t394.toList)))))))) = true then (if t384.toList = t395.toList then (if t385 = t396 then (if (t398 == t414 && (t399 == t415 && (t400 == t416 && (t401 == t417 && (t402 == t418 && (t403 == t419 && ((t404 == t420 && (t405 == t421 && (t406 == t422 && (t407 == t423 && (t408 == t424 && (t409.toList == t425.toList && (t410.toList == t426.toList && (t411.toList == t427.toList))))))))))))))) = true then (if t412 = t428 then (some (t443 == t458)) else (none)) else (none)) else (none)) else (none)) else (none)) = some r := by rw [if_pos rfl] at H; exact H
        clear H
        have H := H1
        clear H1
        by_cases c14 : (t376 == t387 && (t377 == t388 && (t378 == t389 && (t379 == t390 && (t380 == t391 && (t381.toList == t392.toList && (t382.toList == t393.toList && (t383.toList == t394.toList)))))))) = true
        · rw [if_pos c14] at H
          have c14b0 : (t376 == t387 && (t377 == t388 && (t378 == t389 && (t379 == t390 && (t380 == t391 && (t381.toList == t392.toList && (t382.toList == t393.toList && (t383.toList == t394.toList)))))))) = true := c14
          (try (have c14b1 : decide (t376 = t387 && (t377 == t388 && (t378 == t389 && (t379 == t390 && (t380 == t391 && (t381.toList == t392.toList && (t382.toList == t393.toList && (t383.toList == t394.toList)))))))) = true := by simpa using c14))
          (try (have c14b2 : (t376 == t387 && (t377 == t388 && (t378 == t389 && (t379 == t390 && (t380 == t391 && (t381.toList == t392.toList && (t382.toList == t393.toList && (t383.toList == t394.toList)))))))) = true := by simpa using c14))
          clear c14
          by_cases c15 : t384.toList = t395.toList
          · rw [if_pos c15] at H
            have c15b0 : (t384.toList == t395.toList) = true := beq_iff_eq.mpr c15
            have c15b1 : (t384.toList != t395.toList) = false := bne_eq_false_iff_eq.mpr c15
            clear c15
            by_cases c16 : t385 = t396
            · rw [if_pos c16] at H
              have c16b0 : (t385 == t396) = true := beq_iff_eq.mpr c16
              have c16b1 : (t385 != t396) = false := bne_eq_false_iff_eq.mpr c16
              clear c16
              by_cases c17 : (t398 == t414 && (t399 == t415 && (t400 == t416 && (t401 == t417 && (t402 == t418 && (t403 == t419 && ((t404 == t420 && (t405 == t421 && (t406 == t422 && (t407 == t423 && (t408 == t424 && (t409.toList == t425.toList && (t410.toList == t426.toList && (t411.toList == t427.toList))))))))))))))) = true
              · rw [if_pos c17] at H
                have c17b0 : (t398 == t414 && (t399 == t415 && (t400 == t416 && (t401 == t417 && (t402 == t418 && (t403 == t419 && ((t404 == t420 && (t405 == t421 && (t406 == t422 && (t407 == t423 && (t408 == t424 && (t409.toList == t425.toList && (t410.toList == t426.toList && (t411.toList == t427.toList))))))))))))))) = true := c17
                (try (have c17b1 : decide (t398 = t414 && (t399 == t415 && (t400 == t416 && (t401 == t417 && (t402 == t418 && (t403 == t419 && ((t404 == t420 && (t405 == t421 && (t406 == t422 && (t407 == t423 && (t408 == t424 && (t409.toList == t425.toList && (t410.toList == t426.toList && (t411.toList == t427.toList))))))))))))))) = true := by simpa using c17))
                (try (have c17b2 : (t398 == t414 && (t399 == t415 && (t400 == t416 && (t401 == t417 && (t402 == t418 && (t403 == t419 && ((t404 == t420 && (t405 == t421 && (t406 == t422 && (t407 == t423 && (t408 == t424 && (t409.toList == t425.toList && (t410.toList == t426.toList && (t411.toList == t427.toList))))))))))))))) = true := by simpa using c17))
                clear c17
                by_cases c18 : t412 = t428
                · rw [if_pos c18] at H
                  have c18b0 : (t412 == t428) = true := beq_iff_eq.mpr c18
                  have c18b1 : (t412 != t428) = false := bne_eq_false_iff_eq.mpr c18
                  clear c18
                  obtain rfl := Option.some.inj H
                  go_enter Try.func6, Try.ntmps6
                  go_wp2_with (first | ((with_reducible refine gate_callee (f := 10) rfl ?_); refine goesL_ (some 19) rfl rfl Try.func10 (by kernel_rfl) rfl #[] rfl (by (try simp only [List.map_toArray, List.map_cons, List.map_nil]); first | done | rfl | (simp only [List.length_drop, List.length_take]; rfl)) ?_; (with_reducible refine (copyholdlaw15_shown.calls  true _ A2.out).mono ?_); rintro e w19 ⟨rfl, hb⟩; refine ⟨_, rfl, ?_⟩; have n0_ := Aside0.mk (below_step (by repeat (first | (with_reducible first | exact HB.out | apply below_alloc | apply pw_below_drewN | apply below_drew1) | exact HB.out)) hb); clear HB; have HB := n0_; clear n0_; (try clear hb); (try clear hb2); (try clear hk); (try clear hi)) | ((with_reducible refine gate_callee (f := 13) rfl ?_); refine goesL_ (some 26) rfl rfl Try.func13 (by kernel_rfl) rfl #[.string a0] rfl (by (try simp only [List.map_toArray, List.map_cons, List.map_nil]); first | done | rfl | (simp only [List.length_drop, List.length_take]; rfl)) ?_; (with_reducible refine (wire_TakeCall.calls a0 t376 t377 t378 t379 t380 t381 t382 t383 t384 t385 _ A5.out).mono ?_); rintro e w20 ⟨rfl, hb⟩; refine ⟨_, rfl, ?_⟩; have n0_ := Aside0.mk (below_step (by repeat (first | (with_reducible first | exact HB.out | apply below_alloc | apply pw_below_drewN | apply below_drew1) | exact HB.out)) hb); clear HB; have HB := n0_; clear n0_; (try clear hb); (try clear hb2); (try clear hk); (try clear hi)) | ((with_reducible refine gate_dst (N := 4) rfl ?_); refine box_event ?hg (N := 4) ?hd (cs := pxAQ145_) (t := 23) ?hr ?_; (case hd => rfl); (case hg => rfl); (case hr => first | (go_simp; done) | (go_simp; rfl)); intro gb386 hg w21 hbox hb; have n0_ := Aside0.mk (below_step (by repeat (first | (with_reducible first | exact HB.out | apply below_alloc | apply pw_below_drewN | apply below_drew1) | exact HB.out)) hb); have n1_ := Aside0.mk (hbox); have n2_ := Aside0.mk ((by rw [hg]; exact (below_size (by repeat (first | (with_reducible first | exact HB.out | apply below_alloc | apply pw_below_drewN | apply below_drew1) | exact HB.out))) : w.heap.size ≤ gb386)); have n3_ := Aside0.mk ((by rw [hg]; exact (below_size (by repeat (first | (with_reducible first | exact HB.out | apply below_alloc | apply pw_below_drewN | apply below_drew1) | exact HB.out))) : w.heap.size ≤ gb386)); clear HB; have HB := n0_; have BK386 := n1_; have GW386 := n2_; have GE386 := n3_; clear n0_ n1_ n2_ n3_; clear hb hbox hg; pxhQ14_ hcz22_0 w21 gb386 0 (.int .i64 0) BK386; pxhQ14_ hcz22_1 w21 gb386 1 (.int .i64 0) BK386; pxhQ14_ hcz22_2 w21 gb386 2 (.int .i64 0) BK386; pxhQ14_ hcz22_3 w21 gb386 3 (.int .i64 0) BK386; pxhQ14_ hcz22_4 w21 gb386 4 (.int .i64 0) BK386; pxhQ14_ hcz22_5 w21 gb386 5 (.string (⟨#[]⟩ : ByteArray)) BK386; pxhQ14_ hcz22_6 w21 gb386 6 (.string (⟨#[]⟩ : ByteArray)) BK386; pxhQ14_ hcz22_7 w21 gb386 7 (.string (⟨#[]⟩ : ByteArray)) BK386; pxfQ14_ hfz22_0 BK386 0; pxfQ14_ hfz22_1 BK386 1; pxfQ14_ hfz22_2 BK386 2; pxfQ14_ hfz22_3 BK386 3; pxfQ14_ hfz22_4 BK386 4; pxfQ14_ hfz22_5 BK386 5; pxfQ14_ hfz22_6 BK386 6; pxfQ14_ hfz22_7 BK386 7) | ((with_reducible refine gate_callee (f := 22) rfl ?_); refine goesL_ (some 32) rfl rfl Try.func22 (by kernel_rfl) rfl #[.string a0] rfl (by (try simp only [List.map_toArray, List.map_cons, List.map_nil]); first | done | rfl | (simp only [List.length_drop, List.length_take]; rfl)) ?_; (with_reducible refine (copyholdref15_TakeCall.calls k a0 t387 t388 t389 t390 t391 t392 t393 t394 t395 t396 _ A6.out).mono ?_); rintro e w23 ⟨rfl, hb⟩; refine ⟨_, rfl, ?_⟩; have n0_ := Aside0.mk (blk_below (g := gb386) (o := .cells pxAQ146_ 23 (0, 0)) (by (with_reducible repeat (first | refine blk_drewN ?_ _ | refine blk_drew ?_ | refine blk_alloc ?_ _)); refine blk_put (cs := #[.int .i64 t376, .int .i64 t377, .int .i64 t378, .int .i64 t379, .int .i64 t380, .string t381, .string t382, .string (⟨#[]⟩ : ByteArray)]) ?_ 7 _ rfl; (with_reducible repeat (first | refine blk_drewN ?_ _ | refine blk_drew ?_ | refine blk_alloc ?_ _)); refine blk_put (cs := #[.int .i64 t376, .int .i64 t377, .int .i64 t378, .int .i64 t379, .int .i64 t380, .string t381, .string (⟨#[]⟩ : ByteArray), .string (⟨#[]⟩ : ByteArray)]) ?_ 6 _ rfl; (with_reducible repeat (first | refine blk_drewN ?_ _ | refine blk_drew ?_ | refine blk_alloc ?_ _)); refine blk_put (cs := #[.int .i64 t376, .int .i64 t377, .int .i64 t378, .int .i64 t379, .int .i64 t380, .string (⟨#[]⟩ : ByteArray), .string (⟨#[]⟩ : ByteArray), .string (⟨#[]⟩ : ByteArray)]) ?_ 5 _ rfl; (with_reducible repeat (first | refine blk_drewN ?_ _ | refine blk_drew ?_ | refine blk_alloc ?_ _)); refine blk_put (cs := #[.int .i64 t376, .int .i64 t377, .int .i64 t378, .int .i64 t379, .int .i64 0, .string (⟨#[]⟩ : ByteArray), .string (⟨#[]⟩ : ByteArray), .string (⟨#[]⟩ : ByteArray)]) ?_ 4 _ rfl; (with_reducible repeat (first | refine blk_drewN ?_ _ | refine blk_drew ?_ | refine blk_alloc ?_ _)); refine blk_put (cs := #[.int .i64 t376, .int .i64 t377, .int .i64 t378, .int .i64 0, .int .i64 0, .string (⟨#[]⟩ : ByteArray), .string (⟨#[]⟩ : ByteArray), .string (⟨#[]⟩ : ByteArray)]) ?_ 3 _ rfl; (with_reducible repeat (first | refine blk_drewN ?_ _ | refine blk_drew ?_ | refine blk_alloc ?_ _)); refine blk_put (cs := #[.int .i64 t376, .int .i64 t377, .int .i64 0, .int .i64 0, .int .i64 0, .string (⟨#[]⟩ : ByteArray), .string (⟨#[]⟩ : ByteArray), .string (⟨#[]⟩ : ByteArray)]) ?_ 2 _ rfl; (with_reducible repeat (first | refine blk_drewN ?_ _ | refine blk_drew ?_ | refine blk_alloc ?_ _)); refine blk_put (cs := #[.int .i64 t376, .int .i64 0, .int .i64 0, .int .i64 0, .int .i64 0, .string (⟨#[]⟩ : ByteArray), .string (⟨#[]⟩ : ByteArray), .string (⟨#[]⟩ : ByteArray)]) ?_ 1 _ rfl; (with_reducible repeat (first | refine blk_drewN ?_ _ | refine blk_drew ?_ | refine blk_alloc ?_ _)); refine blk_put (cs := pxAQ145_) ?_ 0 _ rfl; (with_reducible repeat (first | refine blk_drewN ?_ _ | refine blk_drew ?_ | refine blk_alloc ?_ _)); exact BK386.out) hb); have n1_ := Aside0.mk (below_step (by repeat (first | (with_reducible first | exact HB.out | apply below_alloc | apply pw_below_drewN | apply below_drew1 | refine below_set ?_ GE386.out) | exact HB.out)) hb); clear BK386; clear HB; have BK386 := n0_; have HB := n1_; clear n0_ n1_; (try clear hb); (try clear hb2); (try clear hk); (try clear hi)) | ((with_reducible refine gate_dst (N := 7) rfl ?_); refine box_event ?hg (N := 7) ?hd (cs := pxAQ145_) (t := 23) ?hr ?_; (case hd => rfl); (case hg => rfl); (case hr => first | (go_simp; done) | (go_simp; rfl)); intro gb397 hg w24 hbox hb; have n0_ := Aside0.mk (blk_below (g := gb386) (o := .cells pxAQ146_ 23 (0, 0)) (by (with_reducible repeat (first | refine blk_drewN ?_ _ | refine blk_drew ?_ | refine blk_alloc ?_ _)); exact BK386.out) hb); have n1_ := Aside0.mk (below_step (by repeat (first | (with_reducible first | exact HB.out | apply below_alloc | apply pw_below_drewN | apply below_drew1 | refine below_set ?_ GE386.out) | exact HB.out)) hb); have n2_ := Aside0.mk (hbox); have n3_ := Aside0.mk ((by rw [hg]; exact (below_size (by repeat (first | (with_reducible first | exact HB.out | apply below_alloc | apply pw_below_drewN | apply below_drew1 | refine below_set ?_ GE386.out) | exact HB.out))) : w.heap.size ≤ gb397)); have n4_ := Aside0.mk ((by rw [hg]; exact (below_size (by repeat (first | (with_reducible first | exact HB.out | apply below_alloc | apply pw_below_drewN | apply below_drew1 | refine below_set ?_ GE386.out) | exact HB.out))) : w.heap.size ≤ gb397)); have n5_ := Aside0.mk ((by rw [hg]; exact Nat.ne_of_lt (blk_lt (g := gb386) (o := .cells pxAQ146_ 23 (0, 0)) (by (with_reducible repeat (first | refine blk_drewN ?_ _ | refine blk_drew ?_ | refine blk_alloc ?_ _)); exact BK386.out)) : gb386 ≠ gb397)); have n6_ := Aside0.mk ((by rw [hg]; exact Nat.ne_of_gt (blk_lt (g := gb386) (o := .cells pxAQ146_ 23 (0, 0)) (by (with_reducible repeat (first | refine blk_drewN ?_ _ | refine blk_drew ?_ | refine blk_alloc ?_ _)); exact BK386.out)) : gb397 ≠ gb386)); clear BK386; clear HB; have BK386 := n0_; have HB := n1_; have BK397 := n2_; have GW397 := n3_; have GE397 := n4_; have NB386_397 := n5_; have NB397_386 := n6_; clear n0_ n1_ n2_ n3_ n4_ n5_ n6_; clear hb hbox hg; have hnb25 := NB397_386.out; have hnc25 := NB386_397.out; pxhQ14_ hcz26_0 w24 gb397 0 (.int .i64 0) BK397; pxhQ14_ hcz26_1 w24 gb397 1 (.int .i64 0) BK397; pxhQ14_ hcz26_2 w24 gb397 2 (.int .i64 0) BK397; pxhQ14_ hcz26_3 w24 gb397 3 (.int .i64 0) BK397; pxhQ14_ hcz26_4 w24 gb397 4 (.int .i64 0) BK397; pxhQ14_ hcz26_5 w24 gb397 5 (.string (⟨#[]⟩ : ByteArray)) BK397; pxhQ14_ hcz26_6 w24 gb397 6 (.string (⟨#[]⟩ : ByteArray)) BK397; pxhQ14_ hcz26_7 w24 gb397 7 (.string (⟨#[]⟩ : ByteArray)) BK397; pxfQ14_ hfz26_0 BK397 0; pxfQ14_ hfz26_1 BK397 1; pxfQ14_ hfz26_2 BK397 2; pxfQ14_ hfz26_3 BK397 3; pxfQ14_ hfz26_4 BK397 4; pxfQ14_ hfz26_5 BK397 5; pxfQ14_ hfz26_6 BK397 6; pxfQ14_ hfz26_7 BK397 7) | ((with_reducible refine gate_callee (f := 23) rfl ?_); refine goesL_ (some 38) rfl rfl Try.func23 (by kernel_rfl) rfl #[.string a0] rfl (by (try simp only [List.map_toArray, List.map_cons, List.map_nil]); first | done | rfl | (simp only [List.length_drop, List.length_take]; rfl)) ?_; (with_reducible refine (wire_TakeMsg.calls a0 t398 t399 t400 t401 t402 t403 t404 t405 t406 t407 t408 t409 t410 t411 t412 _ A7.out).mono ?_); rintro e w27 ⟨rfl, hb⟩; refine ⟨_, rfl, ?_⟩; have n0_ := Aside0.mk (blk_below (g := gb386) (o := .cells pxAQ146_ 23 (0, 0)) (by (with_reducible repeat (first | refine blk_drewN ?_ _ | refine blk_drew ?_ | refine blk_alloc ?_ _)); refine blk_far ?_ NB386_397.out _; (with_reducible repeat (first | refine blk_drewN ?_ _ | refine blk_drew ?_ | refine blk_alloc ?_ _)); refine blk_far ?_ NB386_397.out _; (with_reducible repeat (first | refine blk_drewN ?_ _ | refine blk_drew ?_ | refine blk_alloc ?_ _)); refine blk_far ?_ NB386_397.out _; (with_reducible repeat (first | refine blk_drewN ?_ _ | refine blk_drew ?_ | refine blk_alloc ?_ _)); refine blk_far ?_ NB386_397.out _; (with_reducible repeat (first | refine blk_drewN ?_ _ | refine blk_drew ?_ | refine blk_alloc ?_ _)); refine blk_far ?_ NB386_397.out _; (with_reducible repeat (first | refine blk_drewN ?_ _ | refine blk_drew ?_ | refine blk_alloc ?_ _)); refine blk_far ?_ NB386_397.out _; (with_reducible repeat (first | refine blk_drewN ?_ _ | refine blk_drew ?_ | refine blk_alloc ?_ _)); refine blk_far ?_ NB386_397.out _; (with_reducible repeat (first | refine blk_drewN ?_ _ | refine blk_drew ?_ | refine blk_alloc ?_ _)); refine blk_far ?_ NB386_397.out _; (with_reducible repeat (first | refine blk_drewN ?_ _ | refine blk_drew ?_ | refine blk_alloc ?_ _)); exact BK386.out) hb); have n1_ := Aside0.mk (blk_below (g := gb397) (o := .cells pxAQ147_ 23 (0, 0)) (by (with_reducible repeat (first | refine blk_drewN ?_ _ | refine blk_drew ?_ | refine blk_alloc ?_ _)); refine blk_put (cs := #[.int .i64 t387, .int .i64 t388, .int .i64 t389, .int .i64 t390, .int .i64 t391, .string t392, .string t393, .string (⟨#[]⟩ : ByteArray)]) ?_ 7 _ rfl; (with_reducible repeat (first | refine blk_drewN ?_ _ | refine blk_drew ?_ | refine blk_alloc ?_ _)); refine blk_put (cs := #[.int .i64 t387, .int .i64 t388, .int .i64 t389, .int .i64 t390, .int .i64 t391, .string t392, .string (⟨#[]⟩ : ByteArray), .string (⟨#[]⟩ : ByteArray)]) ?_ 6 _ rfl; (with_reducible repeat (first | refine blk_drewN ?_ _ | refine blk_drew ?_ | refine blk_alloc ?_ _)); refine blk_put (cs := #[.int .i64 t387, .int .i64 t388, .int .i64 t389, .int .i64 t390, .int .i64 t391, .string (⟨#[]⟩ : ByteArray), .string (⟨#[]⟩ : ByteArray), .string (⟨#[]⟩ : ByteArray)]) ?_ 5 _ rfl; (with_reducible repeat (first | refine blk_drewN ?_ _ | refine blk_drew ?_ | refine blk_alloc ?_ _)); refine blk_put (cs := #[.int .i64 t387, .int .i64 t388, .int .i64 t389, .int .i64 t390, .int .i64 0, .string (⟨#[]⟩ : ByteArray), .string (⟨#[]⟩ : ByteArray), .string (⟨#[]⟩ : ByteArray)]) ?_ 4 _ rfl; (with_reducible repeat (first | refine blk_drewN ?_ _ | refine blk_drew ?_ | refine blk_alloc ?_ _)); refine blk_put (cs := #[.int .i64 t387, .int .i64 t388, .int .i64 t389, .int .i64 0, .int .i64 0, .string (⟨#[]⟩ : ByteArray), .string (⟨#[]⟩ : ByteArray), .string (⟨#[]⟩ : ByteArray)]) ?_ 3 _ rfl; (with_reducible repeat (first | refine blk_drewN ?_ _ | refine blk_drew ?_ | refine blk_alloc ?_ _)); refine blk_put (cs := #[.int .i64 t387, .int .i64 t388, .int .i64 0, .int .i64 0, .int .i64 0, .string (⟨#[]⟩ : ByteArray), .string (⟨#[]⟩ : ByteArray), .string (⟨#[]⟩ : ByteArray)]) ?_ 2 _ rfl; (with_reducible repeat (first | refine blk_drewN ?_ _ | refine blk_drew ?_ | refine blk_alloc ?_ _)); refine blk_put (cs := #[.int .i64 t387, .int .i64 0, .int .i64 0, .int .i64 0, .int .i64 0, .string (⟨#[]⟩ : ByteArray), .string (⟨#[]⟩ : ByteArray), .string (⟨#[]⟩ : ByteArray)]) ?_ 1 _ rfl; (with_reducible repeat (first | refine blk_drewN ?_ _ | refine blk_drew ?_ | refine blk_alloc ?_ _)); refine blk_put (cs := pxAQ145_) ?_ 0 _ rfl; (with_reducible repeat (first | refine blk_drewN ?_ _ | refine blk_drew ?_ | refine blk_alloc ?_ _)); exact BK397.out) hb); have n2_ := Aside0.mk (below_step (by repeat (first | (with_reducible first | exact HB.out | apply below_alloc | apply pw_below_drewN | apply below_drew1 | refine below_set ?_ GE386.out | refine below_set ?_ GE397.out) | exact HB.out)) hb); clear BK386; clear BK397; clear HB; have BK386 := n0_; have BK397 := n1_; have HB := n2_; clear n0_ n1_ n2_; (try clear hb); (try clear hb2); (try clear hk); (try clear hi)) | ((with_reducible refine gate_dst (N := 10) rfl ?_); refine box_event ?hg (N := 10) ?hd (cs := pxAQ140_) (t := 32) ?hr ?_; (case hd => rfl); (case hg => rfl); (case hr => first | (go_simp; done) | (go_simp; rfl)); intro gb413 hg w28 hbox hb; have n0_ := Aside0.mk (blk_below (g := gb386) (o := .cells pxAQ146_ 23 (0, 0)) (by (with_reducible repeat (first | refine blk_drewN ?_ _ | refine blk_drew ?_ | refine blk_alloc ?_ _)); exact BK386.out) hb); have n1_ := Aside0.mk (blk_below (g := gb397) (o := .cells pxAQ147_ 23 (0, 0)) (by (with_reducible repeat (first | refine blk_drewN ?_ _ | refine blk_drew ?_ | refine blk_alloc ?_ _)); exact BK397.out) hb); have n2_ := Aside0.mk (below_step (by repeat (first | (with_reducible first | exact HB.out | apply below_alloc | apply pw_below_drewN | apply below_drew1 | refine below_set ?_ GE386.out | refine below_set ?_ GE397.out) | exact HB.out)) hb); have n3_ := Aside0.mk (hbox); have n4_ := Aside0.mk ((by rw [hg]; exact (below_size (by repeat (first | (with_reducible first | exact HB.out | apply below_alloc | apply pw_below_drewN | apply below_drew1 | refine below_set ?_ GE386.out | refine below_set ?_ GE397.out) | exact HB.out))) : w.heap.size ≤ gb413)); have n5_ := Aside0.mk ((by rw [hg]; exact (below_size (by repeat (first | (with_reducible first | exact HB.out | apply below_alloc | apply pw_below_drewN | apply below_drew1 | refine below_set ?_ GE386.out | refine below_set ?_ GE397.out) | exact HB.out))) : w.heap.size ≤ gb413)); have n6_ := Aside0.mk ((by rw [hg]; exact Nat.ne_of_lt (blk_lt (g := gb386) (o := .cells pxAQ146_ 23 (0, 0)) (by (with_reducible repeat (first | refine blk_drewN ?_ _ | refine blk_drew ?_ | refine blk_alloc ?_ _)); exact BK386.out)) : gb386 ≠ gb413)); have n7_ := Aside0.mk ((by rw [hg]; exact Nat.ne_of_gt (blk_lt (g := gb386) (o := .cells pxAQ146_ 23 (0, 0)) (by (with_reducible repeat (first | refine blk_drewN ?_ _ | refine blk_drew ?_ | refine blk_alloc ?_ _)); exact BK386.out)) : gb413 ≠ gb386)); have n8_ := Aside0.mk ((by rw [hg]; exact Nat.ne_of_lt (blk_lt (g := gb397) (o := .cells pxAQ147_ 23 (0, 0)) (by (with_reducible repeat (first | refine blk_drewN ?_ _ | refine blk_drew ?_ | refine blk_alloc ?_ _)); exact BK397.out)) : gb397 ≠ gb413)); have n9_ := Aside0.mk ((by rw [hg]; exact Nat.ne_of_gt (blk_lt (g := gb397) (o := .cells pxAQ147_ 23 (0, 0)) (by (with_reducible repeat (first | refine blk_drewN ?_ _ | refine blk_drew ?_ | refine blk_alloc ?_ _)); exact BK397.out)) : gb413 ≠ gb397)); clear BK386; clear BK397; clear HB; have BK386 := n0_; have BK397 := n1_; have HB := n2_; have BK413 := n3_; have GW413 := n4_; have GE413 := n5_; have NB386_413 := n6_; have NB413_386 := n7_; have NB397_413 := n8_; have NB413_397 := n9_; clear n0_ n1_ n2_ n3_ n4_ n5_ n6_ n7_ n8_ n9_; clear hb hbox hg; have hnb29 := NB413_386.out; have hnc29 := NB386_413.out; have hnb30 := NB413_397.out; have hnc30 := NB397_413.out; pxhQ14_ hcz31_0 w28 gb413 0 (.int .i64 0) BK413; pxhQ14_ hcz31_1 w28 gb413 1 (.int .i64 0) BK413; pxhQ14_ hcz31_2 w28 gb413 2 (.int .i64 0) BK413; pxhQ14_ hcz31_3 w28 gb413 3 (.int .i64 0) BK413; pxhQ14_ hcz31_4 w28 gb413 4 (.int .i64 0) BK413; pxhQ14_ hcz31_5 w28 gb413 5 (.int .i64 0) BK413; pxhQ14_ hcz31_6 w28 gb413 6 (.int .i64 0) BK413; pxhQ14_ hcz31_7 w28 gb413 7 (.int .i64 0) BK413; pxhQ14_ hcz31_8 w28 gb413 8 (.int .i64 0) BK413; pxhQ14_ hcz31_9 w28 gb413 9 (.int .i64 0) BK413; pxhQ14_ hcz31_10 w28 gb413 10 (.int .i64 0) BK413; pxhQ14_ hcz31_11 w28 gb413 11 (.string (⟨#[]⟩ : ByteArray)) BK413; pxhQ14_ hcz31_12 w28 gb413 12 (.string (⟨#[]⟩ : ByteArray)) BK413; pxhQ14_ hcz31_13 w28 gb413 13 (.string (⟨#[]⟩ : ByteArray)) BK413; pxfQ14_ hfz31_0 BK413 0; pxfQ14_ hfz31_1 BK413 1; pxfQ14_ hfz31_2 BK413 2; pxfQ14_ hfz31_3 BK413 3; pxfQ14_ hfz31_4 BK413 4; pxfQ14_ hfz31_5 BK413 5; pxfQ14_ hfz31_6 BK413 6; pxfQ14_ hfz31_7 BK413 7; pxfQ14_ hfz31_8 BK413 8; pxfQ14_ hfz31_9 BK413 9; pxfQ14_ hfz31_10 BK413 10; pxfQ14_ hfz31_11 BK413 11; pxfQ14_ hfz31_12 BK413 12; pxfQ14_ hfz31_13 BK413 13) | ((with_reducible refine gate_callee (f := 24) rfl ?_); refine goesL_ (some 43) rfl rfl Try.func24 (by kernel_rfl) rfl #[.string a0] rfl (by (try simp only [List.map_toArray, List.map_cons, List.map_nil]); first | done | rfl | (simp only [List.length_drop, List.length_take]; rfl)) ?_; (with_reducible refine (copyholdref15_TakeMsg.calls k a0 t414 t415 t416 t417 t418 t419 t420 t421 t422 t423 t424 t425 t426 t427 t428 _ A8.out).mono ?_); rintro e w32 ⟨rfl, hb⟩; refine ⟨_, rfl, ?_⟩; have n0_ := Aside0.mk (blk_below (g := gb386) (o := .cells pxAQ146_ 23 (0, 0)) (by (with_reducible repeat (first | refine blk_drewN ?_ _ | refine blk_drew ?_ | refine blk_alloc ?_ _)); refine blk_far ?_ NB386_413.out _; (with_reducible repeat (first | refine blk_drewN ?_ _ | refine blk_drew ?_ | refine blk_alloc ?_ _)); refine blk_far ?_ NB386_413.out _; (with_reducible repeat (first | refine blk_drewN ?_ _ | refine blk_drew ?_ | refine blk_alloc ?_ _)); refine blk_far ?_ NB386_413.out _; (with_reducible repeat (first | refine blk_drewN ?_ _ | refine blk_drew ?_ | refine blk_alloc ?_ _)); refine blk_far ?_ NB386_413.out _; (with_reducible repeat (first | refine blk_drewN ?_ _ | refine blk_drew ?_ | refine blk_alloc ?_ _)); refine blk_far ?_ NB386_413.out _; (with_reducible repeat (first | refine blk_drewN ?_ _ | refine blk_drew ?_ | refine blk_alloc ?_ _)); refine blk_far ?_ NB386_413.out _; (with_reducible repeat (first | refine blk_drewN ?_ _ | refine blk_drew ?_ | refine blk_alloc ?_ _)); refine blk_far ?_ NB386_413.out _; (with_reducible repeat (first | refine blk_drewN ?_ _ | refine blk_drew ?_ | refine blk_alloc ?_ _)); refine blk_far ?_ NB386_413.out _; (with_reducible repeat (first | refine blk_drewN ?_ _ | refine blk_drew ?_ | refine blk_alloc ?_ _)); refine blk_far ?_ NB386_413.out _; (with_reducible repeat (first | refine blk_drewN ?_ _ | refine blk_drew ?_ | refine blk_alloc ?_ _)); refine blk_far ?_ NB386_413.out _; (with_reducible repeat (first | refine blk_drewN ?_ _ | refine blk_drew ?_ | refine blk_alloc ?_ _)); refine blk_far ?_ NB386_413.out _; (with_reducible repeat (first | refine blk_drewN ?_ _ | refine blk_drew ?_ | refine blk_alloc ?_ _)); refine blk_far ?_ NB386_413.out _; (with_reducible repeat (first | refine blk_drewN ?_ _ | refine blk_drew ?_ | refine blk_alloc ?_ _)); refine blk_far ?_ NB386_413.out _; (with_reducible repeat (first | refine blk_drewN ?_ _ | refine blk_drew ?_ | refine blk_alloc ?_ _)); refine blk_far ?_ NB386_413.out _; (with_reducible repeat (first | refine blk_drewN ?_ _ | refine blk_drew ?_ | refine blk_alloc ?_ _)); exact BK386.out) hb); have n1_ := Aside0.mk (blk_below (g := gb397) (o := .cells pxAQ147_ 23 (0, 0)) (by (with_reducible repeat (first | refine blk_drewN ?_ _ | refine blk_drew ?_ | refine blk_alloc ?_ _)); refine blk_far ?_ NB397_413.out _; (with_reducible repeat (first | refine blk_drewN ?_ _ | refine blk_drew ?_ | refine blk_alloc ?_ _)); refine blk_far ?_ NB397_413.out _; (with_reducible repeat (first | refine blk_drewN ?_ _ | refine blk_drew ?_ | refine blk_alloc ?_ _)); refine blk_far ?_ NB397_413.out _; (with_reducible repeat (first | refine blk_drewN ?_ _ | refine blk_drew ?_ | refine blk_alloc ?_ _)); refine blk_far ?_ NB397_413.out _; (with_reducible repeat (first | refine blk_drewN ?_ _ | refine blk_drew ?_ | refine blk_alloc ?_ _)); refine blk_far ?_ NB397_413.out _; (with_reducible repeat (first | refine blk_drewN ?_ _ | refine blk_drew ?_ | refine blk_alloc ?_ _)); refine blk_far ?_ NB397_413.out _; (with_reducible repeat (first | refine blk_drewN ?_ _ | refine blk_drew ?_ | refine blk_alloc ?_ _)); refine blk_far ?_ NB397_413.out _; (with_reducible repeat (first | refine blk_drewN ?_ _ | refine blk_drew ?_ | refine blk_alloc ?_ _)); refine blk_far ?_ NB397_413.out _; (with_reducible repeat (first | refine blk_drewN ?_ _ | refine blk_drew ?_ | refine blk_alloc ?_ _)); refine blk_far ?_ NB397_413.out _; (with_reducible repeat (first | refine blk_drewN ?_ _ | refine blk_drew ?_ | refine blk_alloc ?_ _)); refine blk_far ?_ NB397_413.out _; (with_reducible repeat (first | refine blk_drewN ?_ _ | refine blk_drew ?_ | refine blk_alloc ?_ _)); refine blk_far ?_ NB397_413.out _; (with_reducible repeat (first | refine blk_drewN ?_ _ | refine blk_drew ?_ | refine blk_alloc ?_ _)); refine blk_far ?_ NB397_413.out _; (with_reducible repeat (first | refine blk_drewN ?_ _ | refine blk_drew ?_ | refine blk_alloc ?_ _)); refine blk_far ?_ NB397_413.out _; (with_reducible repeat (first | refine blk_drewN ?_ _ | refine blk_drew ?_ | refine blk_alloc ?_ _)); refine blk_far ?_ NB397_413.out _; (with_reducible repeat (first | refine blk_drewN ?_ _ | refine blk_drew ?_ | refine blk_alloc ?_ _)); exact BK397.out) hb); have n2_ := Aside0.mk (blk_below (g := gb413) (o := .cells pxAQ141_ 32 (0, 0)) (by (with_reducible repeat (first | refine blk_drewN ?_ _ | refine blk_drew ?_ | refine blk_alloc ?_ _)); refine blk_put (cs := #[.int .i64 t398, .int .i64 t399, .int .i64 t400, .int .i64 t401, .int .i64 t402, .int .i64 t403, .int .i64 t404, .int .i64 t405, .int .i64 t406, .int .i64 t407, .int .i64 t408, .string t409, .string t410, .string (⟨#[]⟩ : ByteArray)]) ?_ 13 _ rfl; (with_reducible repeat (first | refine blk_drewN ?_ _ | refine blk_drew ?_ | refine blk_alloc ?_ _)); refine blk_put (cs := #[.int .i64 t398, .int .i64 t399, .int .i64 t400, .int .i64 t401, .int .i64 t402, .int .i64 t403, .int .i64 t404, .int .i64 t405, .int .i64 t406, .int .i64 t407, .int .i64 t408, .string t409, .string (⟨#[]⟩ : ByteArray), .string (⟨#[]⟩ : ByteArray)]) ?_ 12 _ rfl; (with_reducible repeat (first | refine blk_drewN ?_ _ | refine blk_drew ?_ | refine blk_alloc ?_ _)); refine blk_put (cs := #[.int .i64 t398, .int .i64 t399, .int .i64 t400, .int .i64 t401, .int .i64 t402, .int .i64 t403, .int .i64 t404, .int .i64 t405, .int .i64 t406, .int .i64 t407, .int .i64 t408, .string (⟨#[]⟩ : ByteArray), .string (⟨#[]⟩ : ByteArray), .string (⟨#[]⟩ : ByteArray)]) ?_ 11 _ rfl; (with_reducible repeat (first | refine blk_drewN ?_ _ | refine blk_drew ?_ | refine blk_alloc ?_ _)); refine blk_put (cs := #[.int .i64 t398, .int .i64 t399, .int .i64 t400, .int .i64 t401, .int .i64 t402, .int .i64 t403, .int .i64 t404, .int .i64 t405, .int .i64 t406, .int .i64 t407, .int .i64 0, .string (⟨#[]⟩ : ByteArray), .string (⟨#[]⟩ : ByteArray), .string (⟨#[]⟩ : ByteArray)]) ?_ 10 _ rfl; (with_reducible repeat (first | refine blk_drewN ?_ _ | refine blk_drew ?_ | refine blk_alloc ?_ _)); refine blk_put (cs := #[.int .i64 t398, .int .i64 t399, .int .i64 t400, .int .i64 t401, .int .i64 t402, .int .i64 t403, .int .i64 t404, .int .i64 t405, .int .i64 t406, .int .i64 0, .int .i64 0, .string (⟨#[]⟩ : ByteArray), .string (⟨#[]⟩ : ByteArray), .string (⟨#[]⟩ : ByteArray)]) ?_ 9 _ rfl; (with_reducible repeat (first | refine blk_drewN ?_ _ | refine blk_drew ?_ | refine blk_alloc ?_ _)); refine blk_put (cs := #[.int .i64 t398, .int .i64 t399, .int .i64 t400, .int .i64 t401, .int .i64 t402, .int .i64 t403, .int .i64 t404, .int .i64 t405, .int .i64 0, .int .i64 0, .int .i64 0, .string (⟨#[]⟩ : ByteArray), .string (⟨#[]⟩ : ByteArray), .string (⟨#[]⟩ : ByteArray)]) ?_ 8 _ rfl; (with_reducible repeat (first | refine blk_drewN ?_ _ | refine blk_drew ?_ | refine blk_alloc ?_ _)); refine blk_put (cs := #[.int .i64 t398, .int .i64 t399, .int .i64 t400, .int .i64 t401, .int .i64 t402, .int .i64 t403, .int .i64 t404, .int .i64 0, .int .i64 0, .int .i64 0, .int .i64 0, .string (⟨#[]⟩ : ByteArray), .string (⟨#[]⟩ : ByteArray), .string (⟨#[]⟩ : ByteArray)]) ?_ 7 _ rfl; (with_reducible repeat (first | refine blk_drewN ?_ _ | refine blk_drew ?_ | refine blk_alloc ?_ _)); refine blk_put (cs := #[.int .i64 t398, .int .i64 t399, .int .i64 t400, .int .i64 t401, .int .i64 t402, .int .i64 t403, .int .i64 0, .int .i64 0, .int .i64 0, .int .i64 0, .int .i64 0, .string (⟨#[]⟩ : ByteArray), .string (⟨#[]⟩ : ByteArray), .string (⟨#[]⟩ : ByteArray)]) ?_ 6 _ rfl; (with_reducible repeat (first | refine blk_drewN ?_ _ | refine blk_drew ?_ | refine blk_alloc ?_ _)); refine blk_put (cs := #[.int .i64 t398, .int .i64 t399, .int .i64 t400, .int .i64 t401, .int .i64 t402, .int .i64 0, .int .i64 0, .int .i64 0, .int .i64 0, .int .i64 0, .int .i64 0, .string (⟨#[]⟩ : ByteArray), .string (⟨#[]⟩ : ByteArray), .string (⟨#[]⟩ : ByteArray)]) ?_ 5 _ rfl; (with_reducible repeat (first | refine blk_drewN ?_ _ | refine blk_drew ?_ | refine blk_alloc ?_ _)); refine blk_put (cs := #[.int .i64 t398, .int .i64 t399, .int .i64 t400, .int .i64 t401, .int .i64 0, .int .i64 0, .int .i64 0, .int .i64 0, .int .i64 0, .int .i64 0, .int .i64 0, .string (⟨#[]⟩ : ByteArray), .string (⟨#[]⟩ : ByteArray), .string (⟨#[]⟩ : ByteArray)]) ?_ 4 _ rfl; (with_reducible repeat (first | refine blk_drewN ?_ _ | refine blk_drew ?_ | refine blk_alloc ?_ _)); refine blk_put (cs := #[.int .i64 t398, .int .i64 t399, .int .i64 t400, .int .i64 0, .int .i64 0, .int .i64 0, .int .i64 0, .int .i64 0, .int .i64 0, .int .i64 0, .int .i64 0, .string (⟨#[]⟩ : ByteArray), .string (⟨#[]⟩ : ByteArray), .string (⟨#[]⟩ : ByteArray)]) ?_ 3 _ rfl; (with_reducible repeat (first | refine blk_drewN ?_ _ | refine blk_drew ?_ | refine blk_alloc ?_ _)); refine blk_put (cs := #[.int .i64 t398, .int .i64 t399, .int .i64 0, .int .i64 0, .int .i64 0, .int .i64 0, .int .i64 0, .int .i64 0, .int .i64 0, .int .i64 0, .int .i64 0, .string (⟨#[]⟩ : ByteArray), .string (⟨#[]⟩ : ByteArray), .string (⟨#[]⟩ : ByteArray)]) ?_ 2 _ rfl; (with_reducible repeat (first | refine blk_drewN ?_ _ | refine blk_drew ?_ | refine blk_alloc ?_ _)); refine blk_put (cs := #[.int .i64 t398, .int .i64 0, .int .i64 0, .int .i64 0, .int .i64 0, .int .i64 0, .int .i64 0, .int .i64 0, .int .i64 0, .int .i64 0, .int .i64 0, .string (⟨#[]⟩ : ByteArray), .string (⟨#[]⟩ : ByteArray), .string (⟨#[]⟩ : ByteArray)]) ?_ 1 _ rfl; (with_reducible repeat (first | refine blk_drewN ?_ _ | refine blk_drew ?_ | refine blk_alloc ?_ _)); refine blk_put (cs := pxAQ140_) ?_ 0 _ rfl; (with_reducible repeat (first | refine blk_drewN ?_ _ | refine blk_drew ?_ | refine blk_alloc ?_ _)); exact BK413.out) hb); have n3_ := Aside0.mk (below_step (by repeat (first | (with_reducible first | exact HB.out | apply below_alloc | apply pw_below_drewN | apply below_drew1 | refine below_set ?_ GE386.out | refine below_set ?_ GE397.out | refine below_set ?_ GE413.out) | exact HB.out)) hb); clear BK386; clear BK397; clear BK413; clear HB; have BK386 := n0_; have BK397 := n1_; have BK413 := n2_; have HB := n3_; clear n0_ n1_ n2_ n3_; (try clear hb); (try clear hb2); (try clear hk); (try clear hi)) | ((with_reducible refine gate_dst (N := 12) rfl ?_); refine box_event ?hg (N := 12) ?hd (cs := pxAQ140_) (t := 32) ?hr ?_; (case hd => rfl); (case hg => rfl); (case hr => first | (go_simp; done) | (go_simp; rfl)); intro gb429 hg w33 hbox hb; have n0_ := Aside0.mk (blk_below (g := gb386) (o := .cells pxAQ146_ 23 (0, 0)) (by (with_reducible repeat (first | refine blk_drewN ?_ _ | refine blk_drew ?_ | refine blk_alloc ?_ _)); exact BK386.out) hb); have n1_ := Aside0.mk (blk_below (g := gb397) (o := .cells pxAQ147_ 23 (0, 0)) (by (with_reducible repeat (first | refine blk_drewN ?_ _ | refine blk_drew ?_ | refine blk_alloc ?_ _)); exact BK397.out) hb); have n2_ := Aside0.mk (blk_below (g := gb413) (o := .cells pxAQ141_ 32 (0, 0)) (by (with_reducible repeat (first | refine blk_drewN ?_ _ | refine blk_drew ?_ | refine blk_alloc ?_ _)); exact BK413.out) hb); have n3_ := Aside0.mk (below_step (by repeat (first | (with_reducible first | exact HB.out | apply below_alloc | apply pw_below_drewN | apply below_drew1 | refine below_set ?_ GE386.out | refine below_set ?_ GE397.out | refine below_set ?_ GE413.out) | exact HB.out)) hb); have n4_ := Aside0.mk (hbox); have n5_ := Aside0.mk ((by rw [hg]; exact (below_size (by repeat (first | (with_reducible first | exact HB.out | apply below_alloc | apply pw_below_drewN | apply below_drew1 | refine below_set ?_ GE386.out | refine below_set ?_ GE397.out | refine below_set ?_ GE413.out) | exact HB.out))) : w.heap.size ≤ gb429)); have n6_ := Aside0.mk ((by rw [hg]; exact (below_size (by repeat (first | (with_reducible first | exact HB.out | apply below_alloc | apply pw_below_drewN | apply below_drew1 | refine below_set ?_ GE386.out | refine below_set ?_ GE397.out | refine below_set ?_ GE413.out) | exact HB.out))) : w.heap.size ≤ gb429)); have n7_ := Aside0.mk ((by rw [hg]; exact Nat.ne_of_lt (blk_lt (g := gb386) (o := .cells pxAQ146_ 23 (0, 0)) (by (with_reducible repeat (first | refine blk_drewN ?_ _ | refine blk_drew ?_ | refine blk_alloc ?_ _)); exact BK386.out)) : gb386 ≠ gb429)); have n8_ := Aside0.mk ((by rw [hg]; exact Nat.ne_of_gt (blk_lt (g := gb386) (o := .cells pxAQ146_ 23 (0, 0)) (by (with_reducible repeat (first | refine blk_drewN ?_ _ | refine blk_drew ?_ | refine blk_alloc ?_ _)); exact BK386.out)) : gb429 ≠ gb386)); have n9_ := Aside0.mk ((by rw [hg]; exact Nat.ne_of_lt (blk_lt (g := gb397) (o := .cells pxAQ147_ 23 (0, 0)) (by (with_reducible repeat (first | refine blk_drewN ?_ _ | refine blk_drew ?_ | refine blk_alloc ?_ _)); exact BK397.out)) : gb397 ≠ gb429)); have n10_ := Aside0.mk ((by rw [hg]; exact Nat.ne_of_gt (blk_lt (g := gb397) (o := .cells pxAQ147_ 23 (0, 0)) (by (with_reducible repeat (first | refine blk_drewN ?_ _ | refine blk_drew ?_ | refine blk_alloc ?_ _)); exact BK397.out)) : gb429 ≠ gb397)); have n11_ := Aside0.mk ((by rw [hg]; exact Nat.ne_of_lt (blk_lt (g := gb413) (o := .cells pxAQ141_ 32 (0, 0)) (by (with_reducible repeat (first | refine blk_drewN ?_ _ | refine blk_drew ?_ | refine blk_alloc ?_ _)); exact BK413.out)) : gb413 ≠ gb429)); have n12_ := Aside0.mk ((by rw [hg]; exact Nat.ne_of_gt (blk_lt (g := gb413) (o := .cells pxAQ141_ 32 (0, 0)) (by (with_reducible repeat (first | refine blk_drewN ?_ _ | refine blk_drew ?_ | refine blk_alloc ?_ _)); exact BK413.out)) : gb429 ≠ gb413)); clear BK386; clear BK397; clear BK413; clear HB; have BK386 := n0_; have BK397 := n1_; have BK413 := n2_; have HB := n3_; have BK429 := n4_; have GW429 := n5_; have GE429 := n6_; have NB386_429 := n7_; have NB429_386 := n8_; have NB397_429 := n9_; have NB429_397 := n10_; have NB413_429 := n11_; have NB429_413 := n12_; clear n0_ n1_ n2_ n3_ n4_ n5_ n6_ n7_ n8_ n9_ n10_ n11_ n12_; clear hb hbox hg; have hnb34 := NB429_386.out; have hnc34 := NB386_429.out; have hnb35 := NB429_397.out; have hnc35 := NB397_429.out; have hnb36 := NB429_413.out; have hnc36 := NB413_429.out; pxhQ14_ hcz37_0 w33 gb429 0 (.int .i64 0) BK429; pxhQ14_ hcz37_1 w33 gb429 1 (.int .i64 0) BK429; pxhQ14_ hcz37_2 w33 gb429 2 (.int .i64 0) BK429; pxhQ14_ hcz37_3 w33 gb429 3 (.int .i64 0) BK429; pxhQ14_ hcz37_4 w33 gb429 4 (.int .i64 0) BK429; pxhQ14_ hcz37_5 w33 gb429 5 (.int .i64 0) BK429; pxhQ14_ hcz37_6 w33 gb429 6 (.int .i64 0) BK429; pxhQ14_ hcz37_7 w33 gb429 7 (.int .i64 0) BK429; pxhQ14_ hcz37_8 w33 gb429 8 (.int .i64 0) BK429; pxhQ14_ hcz37_9 w33 gb429 9 (.int .i64 0) BK429; pxhQ14_ hcz37_10 w33 gb429 10 (.int .i64 0) BK429; pxhQ14_ hcz37_11 w33 gb429 11 (.string (⟨#[]⟩ : ByteArray)) BK429; pxhQ14_ hcz37_12 w33 gb429 12 (.string (⟨#[]⟩ : ByteArray)) BK429; pxhQ14_ hcz37_13 w33 gb429 13 (.string (⟨#[]⟩ : ByteArray)) BK429; pxfQ14_ hfz37_0 BK429 0; pxfQ14_ hfz37_1 BK429 1; pxfQ14_ hfz37_2 BK429 2; pxfQ14_ hfz37_3 BK429 3; pxfQ14_ hfz37_4 BK429 4; pxfQ14_ hfz37_5 BK429 5; pxfQ14_ hfz37_6 BK429 6; pxfQ14_ hfz37_7 BK429 7; pxfQ14_ hfz37_8 BK429 8; pxfQ14_ hfz37_9 BK429 9; pxfQ14_ hfz37_10 BK429 10; pxfQ14_ hfz37_11 BK429 11; pxfQ14_ hfz37_12 BK429 12; pxfQ14_ hfz37_13 BK429 13) | ((with_reducible refine gate_callee (f := 25) rfl ?_); refine goesL_ (some 48) rfl rfl Try.func25 (by kernel_rfl) rfl #[.string a0] rfl (by (try simp only [List.map_toArray, List.map_cons, List.map_nil]); first | done | rfl | (simp only [List.length_drop, List.length_take]; rfl)) ?_; (with_reducible refine (wire_TakeRsp.calls a0 t430 t431 t432 t433 t434 t435 t436 t437 t438 t439 t440 t443 _ A9.out).mono ?_); rintro e w38 ⟨v441, rfl, ho0, hb⟩; refine ⟨_, rfl, ?_⟩; have n0_ := Aside0.mk (Kd.R_lower ho0 (below_size (by repeat (first | (with_reducible first | exact HB.out | apply below_alloc | apply pw_below_drewN | apply below_drew1 | refine below_set ?_ GE386.out | refine below_set ?_ GE397.out | refine below_set ?_ GE413.out | refine below_set ?_ GE429.out) | exact HB.out)))); have n1_ := Aside0.mk (blk_below (g := gb386) (o := .cells pxAQ146_ 23 (0, 0)) (by (with_reducible repeat (first | refine blk_drewN ?_ _ | refine blk_drew ?_ | refine blk_alloc ?_ _)); refine blk_far ?_ NB386_429.out _; (with_reducible repeat (first | refine blk_drewN ?_ _ | refine blk_drew ?_ | refine blk_alloc ?_ _)); refine blk_far ?_ NB386_429.out _; (with_reducible repeat (first | refine blk_drewN ?_ _ | refine blk_drew ?_ | refine blk_alloc ?_ _)); refine blk_far ?_ NB386_429.out _; (with_reducible repeat (first | refine blk_drewN ?_ _ | refine blk_drew ?_ | refine blk_alloc ?_ _)); refine blk_far ?_ NB386_429.out _; (with_reducible repeat (first | refine blk_drewN ?_ _ | refine blk_drew ?_ | refine blk_alloc ?_ _)); refine blk_far ?_ NB386_429.out _; (with_reducible repeat (first | refine blk_drewN ?_ _ | refine blk_drew ?_ | refine blk_alloc ?_ _)); refine blk_far ?_ NB386_429.out _; (with_reducible repeat (first | refine blk_drewN ?_ _ | refine blk_drew ?_ | refine blk_alloc ?_ _)); refine blk_far ?_ NB386_429.out _; (with_reducible repeat (first | refine blk_drewN ?_ _ | refine blk_drew ?_ | refine blk_alloc ?_ _)); refine blk_far ?_ NB386_429.out _; (with_reducible repeat (first | refine blk_drewN ?_ _ | refine blk_drew ?_ | refine blk_alloc ?_ _)); refine blk_far ?_ NB386_429.out _; (with_reducible repeat (first | refine blk_drewN ?_ _ | refine blk_drew ?_ | refine blk_alloc ?_ _)); refine blk_far ?_ NB386_429.out _; (with_reducible repeat (first | refine blk_drewN ?_ _ | refine blk_drew ?_ | refine blk_alloc ?_ _)); refine blk_far ?_ NB386_429.out _; (with_reducible repeat (first | refine blk_drewN ?_ _ | refine blk_drew ?_ | refine blk_alloc ?_ _)); refine blk_far ?_ NB386_429.out _; (with_reducible repeat (first | refine blk_drewN ?_ _ | refine blk_drew ?_ | refine blk_alloc ?_ _)); refine blk_far ?_ NB386_429.out _; (with_reducible repeat (first | refine blk_drewN ?_ _ | refine blk_drew ?_ | refine blk_alloc ?_ _)); refine blk_far ?_ NB386_429.out _; (with_reducible repeat (first | refine blk_drewN ?_ _ | refine blk_drew ?_ | refine blk_alloc ?_ _)); exact BK386.out) hb); have n2_ := Aside0.mk (blk_below (g := gb397) (o := .cells pxAQ147_ 23 (0, 0)) (by (with_reducible repeat (first | refine blk_drewN ?_ _ | refine blk_drew ?_ | refine blk_alloc ?_ _)); refine blk_far ?_ NB397_429.out _; (with_reducible repeat (first | refine blk_drewN ?_ _ | refine blk_drew ?_ | refine blk_alloc ?_ _)); refine blk_far ?_ NB397_429.out _; (with_reducible repeat (first | refine blk_drewN ?_ _ | refine blk_drew ?_ | refine blk_alloc ?_ _)); refine blk_far ?_ NB397_429.out _; (with_reducible repeat (first | refine blk_drewN ?_ _ | refine blk_drew ?_ | refine blk_alloc ?_ _)); refine blk_far ?_ NB397_429.out _; (with_reducible repeat (first | refine blk_drewN ?_ _ | refine blk_drew ?_ | refine blk_alloc ?_ _)); refine blk_far ?_ NB397_429.out _; (with_reducible repeat (first | refine blk_drewN ?_ _ | refine blk_drew ?_ | refine blk_alloc ?_ _)); refine blk_far ?_ NB397_429.out _; (with_reducible repeat (first | refine blk_drewN ?_ _ | refine blk_drew ?_ | refine blk_alloc ?_ _)); refine blk_far ?_ NB397_429.out _; (with_reducible repeat (first | refine blk_drewN ?_ _ | refine blk_drew ?_ | refine blk_alloc ?_ _)); refine blk_far ?_ NB397_429.out _; (with_reducible repeat (first | refine blk_drewN ?_ _ | refine blk_drew ?_ | refine blk_alloc ?_ _)); refine blk_far ?_ NB397_429.out _; (with_reducible repeat (first | refine blk_drewN ?_ _ | refine blk_drew ?_ | refine blk_alloc ?_ _)); refine blk_far ?_ NB397_429.out _; (with_reducible repeat (first | refine blk_drewN ?_ _ | refine blk_drew ?_ | refine blk_alloc ?_ _)); refine blk_far ?_ NB397_429.out _; (with_reducible repeat (first | refine blk_drewN ?_ _ | refine blk_drew ?_ | refine blk_alloc ?_ _)); refine blk_far ?_ NB397_429.out _; (with_reducible repeat (first | refine blk_drewN ?_ _ | refine blk_drew ?_ | refine blk_alloc ?_ _)); refine blk_far ?_ NB397_429.out _; (with_reducible repeat (first | refine blk_drewN ?_ _ | refine blk_drew ?_ | refine blk_alloc ?_ _)); refine blk_far ?_ NB397_429.out _; (with_reducible repeat (first | refine blk_drewN ?_ _ | refine blk_drew ?_ | refine blk_alloc ?_ _)); exact BK397.out) hb); have n3_ := Aside0.mk (blk_below (g := gb413) (o := .cells pxAQ141_ 32 (0, 0)) (by (with_reducible repeat (first | refine blk_drewN ?_ _ | refine blk_drew ?_ | refine blk_alloc ?_ _)); refine blk_far ?_ NB413_429.out _; (with_reducible repeat (first | refine blk_drewN ?_ _ | refine blk_drew ?_ | refine blk_alloc ?_ _)); refine blk_far ?_ NB413_429.out _; (with_reducible repeat (first | refine blk_drewN ?_ _ | refine blk_drew ?_ | refine blk_alloc ?_ _)); refine blk_far ?_ NB413_429.out _; (with_reducible repeat (first | refine blk_drewN ?_ _ | refine blk_drew ?_ | refine blk_alloc ?_ _)); refine blk_far ?_ NB413_429.out _; (with_reducible repeat (first | refine blk_drewN ?_ _ | refine blk_drew ?_ | refine blk_alloc ?_ _)); refine blk_far ?_ NB413_429.out _; (with_reducible repeat (first | refine blk_drewN ?_ _ | refine blk_drew ?_ | refine blk_alloc ?_ _)); refine blk_far ?_ NB413_429.out _; (with_reducible repeat (first | refine blk_drewN ?_ _ | refine blk_drew ?_ | refine blk_alloc ?_ _)); refine blk_far ?_ NB413_429.out _; (with_reducible repeat (first | refine blk_drewN ?_ _ | refine blk_drew ?_ | refine blk_alloc ?_ _)); refine blk_far ?_ NB413_429.out _; (with_reducible repeat (first | refine blk_drewN ?_ _ | refine blk_drew ?_ | refine blk_alloc ?_ _)); refine blk_far ?_ NB413_429.out _; (with_reducible repeat (first | refine blk_drewN ?_ _ | refine blk_drew ?_ | refine blk_alloc ?_ _)); refine blk_far ?_ NB413_429.out _; (with_reducible repeat (first | refine blk_drewN ?_ _ | refine blk_drew ?_ | refine blk_alloc ?_ _)); refine blk_far ?_ NB413_429.out _; (with_reducible repeat (first | refine blk_drewN ?_ _ | refine blk_drew ?_ | refine blk_alloc ?_ _)); refine blk_far ?_ NB413_429.out _; (with_reducible repeat (first | refine blk_drewN ?_ _ | refine blk_drew ?_ | refine blk_alloc ?_ _)); refine blk_far ?_ NB413_429.out _; (with_reducible repeat (first | refine blk_drewN ?_ _ | refine blk_drew ?_ | refine blk_alloc ?_ _)); refine blk_far ?_ NB413_429.out _; (with_reducible repeat (first | refine blk_drewN ?_ _ | refine blk_drew ?_ | refine blk_alloc ?_ _)); exact BK413.out) hb); have n4_ := Aside0.mk (blk_below (g := gb429) (o := .cells pxAQ142_ 32 (0, 0)) (by (with_reducible repeat (first | refine blk_drewN ?_ _ | refine blk_drew ?_ | refine blk_alloc ?_ _)); refine blk_put (cs := #[.int .i64 t414, .int .i64 t415, .int .i64 t416, .int .i64 t417, .int .i64 t418, .int .i64 t419, .int .i64 t420, .int .i64 t421, .int .i64 t422, .int .i64 t423, .int .i64 t424, .string t425, .string t426, .string (⟨#[]⟩ : ByteArray)]) ?_ 13 _ rfl; (with_reducible repeat (first | refine blk_drewN ?_ _ | refine blk_drew ?_ | refine blk_alloc ?_ _)); refine blk_put (cs := #[.int .i64 t414, .int .i64 t415, .int .i64 t416, .int .i64 t417, .int .i64 t418, .int .i64 t419, .int .i64 t420, .int .i64 t421, .int .i64 t422, .int .i64 t423, .int .i64 t424, .string t425, .string (⟨#[]⟩ : ByteArray), .string (⟨#[]⟩ : ByteArray)]) ?_ 12 _ rfl; (with_reducible repeat (first | refine blk_drewN ?_ _ | refine blk_drew ?_ | refine blk_alloc ?_ _)); refine blk_put (cs := #[.int .i64 t414, .int .i64 t415, .int .i64 t416, .int .i64 t417, .int .i64 t418, .int .i64 t419, .int .i64 t420, .int .i64 t421, .int .i64 t422, .int .i64 t423, .int .i64 t424, .string (⟨#[]⟩ : ByteArray), .string (⟨#[]⟩ : ByteArray), .string (⟨#[]⟩ : ByteArray)]) ?_ 11 _ rfl; (with_reducible repeat (first | refine blk_drewN ?_ _ | refine blk_drew ?_ | refine blk_alloc ?_ _)); refine blk_put (cs := #[.int .i64 t414, .int .i64 t415, .int .i64 t416, .int .i64 t417, .int .i64 t418, .int .i64 t419, .int .i64 t420, .int .i64 t421, .int .i64 t422, .int .i64 t423, .int .i64 0, .string (⟨#[]⟩ : ByteArray), .string (⟨#[]⟩ : ByteArray), .string (⟨#[]⟩ : ByteArray)]) ?_ 10 _ rfl; (with_reducible repeat (first | refine blk_drewN ?_ _ | refine blk_drew ?_ | refine blk_alloc ?_ _)); refine blk_put (cs := #[.int .i64 t414, .int .i64 t415, .int .i64 t416, .int .i64 t417, .int .i64 t418, .int .i64 t419, .int .i64 t420, .int .i64 t421, .int .i64 t422, .int .i64 0, .int .i64 0, .string (⟨#[]⟩ : ByteArray), .string (⟨#[]⟩ : ByteArray), .string (⟨#[]⟩ : ByteArray)]) ?_ 9 _ rfl; (with_reducible repeat (first | refine blk_drewN ?_ _ | refine blk_drew ?_ | refine blk_alloc ?_ _)); refine blk_put (cs := #[.int .i64 t414, .int .i64 t415, .int .i64 t416, .int .i64 t417, .int .i64 t418, .int .i64 t419, .int .i64 t420, .int .i64 t421, .int .i64 0, .int .i64 0, .int .i64 0, .string (⟨#[]⟩ : ByteArray), .string (⟨#[]⟩ : ByteArray), .string (⟨#[]⟩ : ByteArray)]) ?_ 8 _ rfl; (with_reducible repeat (first | refine blk_drewN ?_ _ | refine blk_drew ?_ | refine blk_alloc ?_ _)); refine blk_put (cs := #[.int .i64 t414, .int .i64 t415, .int .i64 t416, .int .i64 t417, .int .i64 t418, .int .i64 t419, .int .i64 t420, .int .i64 0, .int .i64 0, .int .i64 0, .int .i64 0, .string (⟨#[]⟩ : ByteArray), .string (⟨#[]⟩ : ByteArray), .string (⟨#[]⟩ : ByteArray)]) ?_ 7 _ rfl; (with_reducible repeat (first | refine blk_drewN ?_ _ | refine blk_drew ?_ | refine blk_alloc ?_ _)); refine blk_put (cs := #[.int .i64 t414, .int .i64 t415, .int .i64 t416, .int .i64 t417, .int .i64 t418, .int .i64 t419, .int .i64 0, .int .i64 0, .int .i64 0, .int .i64 0, .int .i64 0, .string (⟨#[]⟩ : ByteArray), .string (⟨#[]⟩ : ByteArray), .string (⟨#[]⟩ : ByteArray)]) ?_ 6 _ rfl; (with_reducible repeat (first | refine blk_drewN ?_ _ | refine blk_drew ?_ | refine blk_alloc ?_ _)); refine blk_put (cs := #[.int .i64 t414, .int .i64 t415, .int .i64 t416, .int .i64 t417, .int .i64 t418, .int .i64 0, .int .i64 0, .int .i64 0, .int .i64 0, .int .i64 0, .int .i64 0, .string (⟨#[]⟩ : ByteArray), .string (⟨#[]⟩ : ByteArray), .string (⟨#[]⟩ : ByteArray)]) ?_ 5 _ rfl; (with_reducible repeat (first | refine blk_drewN ?_ _ | refine blk_drew ?_ | refine blk_alloc ?_ _)); refine blk_put (cs := #[.int .i64 t414, .int .i64 t415, .int .i64 t416, .int .i64 t417, .int .i64 0, .int .i64 0, .int .i64 0, .int .i64 0, .int .i64 0, .int .i64 0, .int .i64 0, .string (⟨#[]⟩ : ByteArray), .string (⟨#[]⟩ : ByteArray), .string (⟨#[]⟩ : ByteArray)]) ?_ 4 _ rfl; (with_reducible repeat (first | refine blk_drewN ?_ _ | refine blk_drew ?_ | refine blk_alloc ?_ _)); refine blk_put (cs := #[.int .i64 t414, .int .i64 t415, .int .i64 t416, .int .i64 0, .int .i64 0, .int .i64 0, .int .i64 0, .int .i64 0, .int .i64 0, .int .i64 0, .int .i64 0, .string (⟨#[]⟩ : ByteArray), .string (⟨#[]⟩ : ByteArray), .string (⟨#[]⟩ : ByteArray)]) ?_ 3 _ rfl; (with_reducible repeat (first | refine blk_drewN ?_ _ | refine blk_drew ?_ | refine blk_alloc ?_ _)); refine blk_put (cs := #[.int .i64 t414, .int .i64 t415, .int .i64 0, .int .i64 0, .int .i64 0, .int .i64 0, .int .i64 0, .int .i64 0, .int .i64 0, .int .i64 0, .int .i64 0, .string (⟨#[]⟩ : ByteArray), .string (⟨#[]⟩ : ByteArray), .string (⟨#[]⟩ : ByteArray)]) ?_ 2 _ rfl; (with_reducible repeat (first | refine blk_drewN ?_ _ | refine blk_drew ?_ | refine blk_alloc ?_ _)); refine blk_put (cs := #[.int .i64 t414, .int .i64 0, .int .i64 0, .int .i64 0, .int .i64 0, .int .i64 0, .int .i64 0, .int .i64 0, .int .i64 0, .int .i64 0, .int .i64 0, .string (⟨#[]⟩ : ByteArray), .string (⟨#[]⟩ : ByteArray), .string (⟨#[]⟩ : ByteArray)]) ?_ 1 _ rfl; (with_reducible repeat (first | refine blk_drewN ?_ _ | refine blk_drew ?_ | refine blk_alloc ?_ _)); refine blk_put (cs := pxAQ140_) ?_ 0 _ rfl; (with_reducible repeat (first | refine blk_drewN ?_ _ | refine blk_drew ?_ | refine blk_alloc ?_ _)); exact BK429.out) hb); have n5_ := Aside0.mk (below_step (by repeat (first | (with_reducible first | exact HB.out | apply below_alloc | apply pw_below_drewN | apply below_drew1 | refine below_set ?_ GE386.out | refine below_set ?_ GE397.out | refine below_set ?_ GE413.out | refine below_set ?_ GE429.out) | exact HB.out)) hb); clear BK386; clear BK397; clear BK413; clear BK429; clear HB; have HO442 := n0_; have BK386 := n1_; have BK397 := n2_; have BK413 := n3_; have BK429 := n4_; have HB := n5_; clear n0_ n1_ n2_ n3_ n4_ n5_; (try clear hb); (try clear hb2); (try clear hk); (try clear hi); (try clear ho0)) | ((with_reducible refine gate_dst (N := 14) rfl ?_); refine box_event ?hg (N := 14) ?hd (cs := pxAQ144_) (t := 37) ?hr ?_; (case hd => rfl); (case hg => rfl); (case hr => first | (go_simp; done) | (go_simp; rfl)); intro gb444 hg w39 hbox hb; have n0_ := Aside0.mk (Kd.R_below (by (with_reducible repeat (first | apply Kd.R_alloc | apply Kd.R_drewN | apply Kd.R_drew)); exact HO442.out) hb); have n1_ := Aside0.mk (blk_below (g := gb386) (o := .cells pxAQ146_ 23 (0, 0)) (by (with_reducible repeat (first | refine blk_drewN ?_ _ | refine blk_drew ?_ | refine blk_alloc ?_ _)); exact BK386.out) hb); have n2_ := Aside0.mk (blk_below (g := gb397) (o := .cells pxAQ147_ 23 (0, 0)) (by (with_reducible repeat (first | refine blk_drewN ?_ _ | refine blk_drew ?_ | refine blk_alloc ?_ _)); exact BK397.out) hb); have n3_ := Aside0.mk (blk_below (g := gb413) (o := .cells pxAQ141_ 32 (0, 0)) (by (with_reducible repeat (first | refine blk_drewN ?_ _ | refine blk_drew ?_ | refine blk_alloc ?_ _)); exact BK413.out) hb); have n4_ := Aside0.mk (blk_below (g := gb429) (o := .cells pxAQ142_ 32 (0, 0)) (by (with_reducible repeat (first | refine blk_drewN ?_ _ | refine blk_drew ?_ | refine blk_alloc ?_ _)); exact BK429.out) hb); have n5_ := Aside0.mk (below_step (by repeat (first | (with_reducible first | exact HB.out | apply below_alloc | apply pw_below_drewN | apply below_drew1 | refine below_set ?_ GE386.out | refine below_set ?_ GE397.out | refine below_set ?_ GE413.out | refine below_set ?_ GE429.out) | exact HB.out)) hb); have n6_ := Aside0.mk (hbox); have n7_ := Aside0.mk ((by rw [hg]; exact (below_size (by repeat (first | (with_reducible first | exact HB.out | apply below_alloc | apply pw_below_drewN | apply below_drew1 | refine below_set ?_ GE386.out | refine below_set ?_ GE397.out | refine below_set ?_ GE413.out | refine below_set ?_ GE429.out) | exact HB.out))) : w.heap.size ≤ gb444)); have n8_ := Aside0.mk ((by rw [hg]; exact (below_size (by repeat (first | (with_reducible first | exact HB.out | apply below_alloc | apply pw_below_drewN | apply below_drew1 | refine below_set ?_ GE386.out | refine below_set ?_ GE397.out | refine below_set ?_ GE413.out | refine below_set ?_ GE429.out) | exact HB.out))) : w.heap.size ≤ gb444)); have n9_ := Aside0.mk ((by rw [hg]; exact Nat.ne_of_lt (blk_lt (g := gb386) (o := .cells pxAQ146_ 23 (0, 0)) (by (with_reducible repeat (first | refine blk_drewN ?_ _ | refine blk_drew ?_ | refine blk_alloc ?_ _)); exact BK386.out)) : gb386 ≠ gb444)); have n10_ := Aside0.mk ((by rw [hg]; exact Nat.ne_of_gt (blk_lt (g := gb386) (o := .cells pxAQ146_ 23 (0, 0)) (by (with_reducible repeat (first | refine blk_drewN ?_ _ | refine blk_drew ?_ | refine blk_alloc ?_ _)); exact BK386.out)) : gb444 ≠ gb386)); have n11_ := Aside0.mk ((by rw [hg]; exact Nat.ne_of_lt (blk_lt (g := gb397) (o := .cells pxAQ147_ 23 (0, 0)) (by (with_reducible repeat (first | refine blk_drewN ?_ _ | refine blk_drew ?_ | refine blk_alloc ?_ _)); exact BK397.out)) : gb397 ≠ gb444)); have n12_ := Aside0.mk ((by rw [hg]; exact Nat.ne_of_gt (blk_lt (g := gb397) (o := .cells pxAQ147_ 23 (0, 0)) (by (with_reducible repeat (first | refine blk_drewN ?_ _ | refine blk_drew ?_ | refine blk_alloc ?_ _)); exact BK397.out)) : gb444 ≠ gb397)); have n13_ := Aside0.mk ((by rw [hg]; exact Nat.ne_of_lt (blk_lt (g := gb413) (o := .cells pxAQ141_ 32 (0, 0)) (by (with_reducible repeat (first | refine blk_drewN ?_ _ | refine blk_drew ?_ | refine blk_alloc ?_ _)); exact BK413.out)) : gb413 ≠ gb444)); have n14_ := Aside0.mk ((by rw [hg]; exact Nat.ne_of_gt (blk_lt (g := gb413) (o := .cells pxAQ141_ 32 (0, 0)) (by (with_reducible repeat (first | refine blk_drewN ?_ _ | refine blk_drew ?_ | refine blk_alloc ?_ _)); exact BK413.out)) : gb444 ≠ gb413)); have n15_ := Aside0.mk ((by rw [hg]; exact Nat.ne_of_lt (blk_lt (g := gb429) (o := .cells pxAQ142_ 32 (0, 0)) (by (with_reducible repeat (first | refine blk_drewN ?_ _ | refine blk_drew ?_ | refine blk_alloc ?_ _)); exact BK429.out)) : gb429 ≠ gb444)); have n16_ := Aside0.mk ((by rw [hg]; exact Nat.ne_of_gt (blk_lt (g := gb429) (o := .cells pxAQ142_ 32 (0, 0)) (by (with_reducible repeat (first | refine blk_drewN ?_ _ | refine blk_drew ?_ | refine blk_alloc ?_ _)); exact BK429.out)) : gb444 ≠ gb429)); clear HO442; clear BK386; clear BK397; clear BK413; clear BK429; clear HB; have HO442 := n0_; have BK386 := n1_; have BK397 := n2_; have BK413 := n3_; have BK429 := n4_; have HB := n5_; have BK444 := n6_; have GW444 := n7_; have GE444 := n8_; have NB386_444 := n9_; have NB444_386 := n10_; have NB397_444 := n11_; have NB444_397 := n12_; have NB413_444 := n13_; have NB444_413 := n14_; have NB429_444 := n15_; have NB444_429 := n16_; clear n0_ n1_ n2_ n3_ n4_ n5_ n6_ n7_ n8_ n9_ n10_ n11_ n12_ n13_ n14_ n15_ n16_; clear hb hbox hg; have hnb40 := NB444_386.out; have hnc40 := NB386_444.out; have hnb41 := NB444_397.out; have hnc41 := NB397_444.out; have hnb42 := NB444_413.out; have hnc42 := NB413_444.out; have hnb43 := NB444_429.out; have hnc43 := NB429_444.out; pxhQ14_ hcz44_0 w39 gb444 0 (.int .i64 0) BK444; pxhQ14_ hcz44_1 w39 gb444 1 (.int .i64 0) BK444; pxhQ14_ hcz44_2 w39 gb444 2 (.int .i64 0) BK444; pxhQ14_ hcz44_3 w39 gb444 3 (.int .i64 0) BK444; pxhQ14_ hcz44_4 w39 gb444 4 (.int .i64 0) BK444; pxhQ14_ hcz44_5 w39 gb444 5 (.int .i64 0) BK444; pxhQ14_ hcz44_6 w39 gb444 6 (.int .i64 0) BK444; pxhQ14_ hcz44_7 w39 gb444 7 (.int .i64 0) BK444; pxhQ14_ hcz44_8 w39 gb444 8 (.int .i64 0) BK444; pxhQ14_ hcz44_9 w39 gb444 9 (.string (⟨#[]⟩ : ByteArray)) BK444; pxhQ14_ hcz44_10 w39 gb444 10 (.slice none 0 0) BK444; pxfQ14_ hfz44_0 BK444 0; pxfQ14_ hfz44_1 BK444 1; pxfQ14_ hfz44_2 BK444 2; pxfQ14_ hfz44_3 BK444 3; pxfQ14_ hfz44_4 BK444 4; pxfQ14_ hfz44_5 BK444 5; pxfQ14_ hfz44_6 BK444 6; pxfQ14_ hfz44_7 BK444 7; pxfQ14_ hfz44_8 BK444 8; pxfQ14_ hfz44_9 BK444 9; pxfQ14_ hfz44_10 BK444 10; obtain ⟨Ao45, co45, eo45⟩ := Kd.R_slice HO442.out; subst eo45) | ((with_reducible refine gate_callee (f := 26) rfl ?_); refine goesL_ (some 53) rfl rfl Try.func26 (by kernel_rfl) rfl #[.string a0] rfl (by (try simp only [List.map_toArray, List.map_cons, List.map_nil]); first | done | rfl | (simp only [List.length_drop, List.length_take]; rfl)) ?_; (with_reducible refine (copyholdref15_TakeRsp.calls k a0 t445 t446 t447 t448 t449 t450 t451 t452 t453 t454 t455 t458 _ A10.out).mono ?_); rintro e w46 ⟨v456, rfl, ho0, hb⟩; refine ⟨_, rfl, ?_⟩; have n0_ := Aside0.mk (Kd.R_elder' (by (with_reducible repeat (first | apply Kd.R_alloc | apply Kd.R_drewN | apply Kd.R_drew)); exact (Kd.R_mono (Kd.R_far (p := ⟨gb444, 10, none⟩) (Kd.R_far (p := ⟨gb444, 9, none⟩) (Kd.R_far (p := ⟨gb444, 8, none⟩) (Kd.R_far (p := ⟨gb444, 7, none⟩) (Kd.R_far (p := ⟨gb444, 6, none⟩) (Kd.R_far (p := ⟨gb444, 5, none⟩) (Kd.R_far (p := ⟨gb444, 4, none⟩) (Kd.R_far (p := ⟨gb444, 3, none⟩) (Kd.R_far (p := ⟨gb444, 2, none⟩) (Kd.R_far (p := ⟨gb444, 1, none⟩) (Kd.R_far (p := ⟨gb444, 0, none⟩) (Kd.R_types HO442.out BK444.out (by decide)) (fun _ hk => hk.2) (.int .i64 t430)) (fun _ hk => hk.2) (.int .i64 t431)) (fun _ hk => hk.2) (.int .i64 t432)) (fun _ hk => hk.2) (.int .i64 t433)) (fun _ hk => hk.2) (.int .i64 t434)) (fun _ hk => hk.2) (.int .i64 t435)) (fun _ hk => hk.2) (.int .i64 t436)) (fun _ hk => hk.2) (.int .i64 t437)) (fun _ hk => hk.2) (.int .i64 t438)) (fun _ hk => hk.2) (.string t439)) (fun _ hk => hk.2) (.slice Ao45 t440.length co45)) (fun _ h_ => h_.1))) (Kd.R_base ho0) hb); have n1_ := Aside0.mk (Kd.R_lower (Kd.R_new' ho0 (Kd.R_lt (by (with_reducible repeat (first | apply Kd.R_alloc | apply Kd.R_drewN | apply Kd.R_drew)); exact (Kd.R_mono (Kd.R_far (p := ⟨gb444, 10, none⟩) (Kd.R_far (p := ⟨gb444, 9, none⟩) (Kd.R_far (p := ⟨gb444, 8, none⟩) (Kd.R_far (p := ⟨gb444, 7, none⟩) (Kd.R_far (p := ⟨gb444, 6, none⟩) (Kd.R_far (p := ⟨gb444, 5, none⟩) (Kd.R_far (p := ⟨gb444, 4, none⟩) (Kd.R_far (p := ⟨gb444, 3, none⟩) (Kd.R_far (p := ⟨gb444, 2, none⟩) (Kd.R_far (p := ⟨gb444, 1, none⟩) (Kd.R_far (p := ⟨gb444, 0, none⟩) (Kd.R_types HO442.out BK444.out (by decide)) (fun _ hk => hk.2) (.int .i64 t430)) (fun _ hk => hk.2) (.int .i64 t431)) (fun _ hk => hk.2) (.int .i64 t432)) (fun _ hk => hk.2) (.int .i64 t433)) (fun _ hk => hk.2) (.int .i64 t434)) (fun _ hk => hk.2) (.int .i64 t435)) (fun _ hk => hk.2) (.int .i64 t436)) (fun _ hk => hk.2) (.int .i64 t437)) (fun _ hk => hk.2) (.int .i64 t438)) (fun _ hk => hk.2) (.string t439)) (fun _ hk => hk.2) (.slice Ao45 t440.length co45)) (fun _ h_ => h_.1))))) (below_size (by repeat (first | (with_reducible first | exact HB.out | apply below_alloc | apply pw_below_drewN | apply below_drew1 | refine below_set ?_ GE386.out | refine below_set ?_ GE397.out | refine below_set ?_ GE413.out | refine below_set ?_ GE429.out | refine below_set ?_ GE444.out) | exact HB.out)))); have n2_ := Aside0.mk (blk_below (g := gb386) (o := .cells pxAQ146_ 23 (0, 0)) (by (with_reducible repeat (first | refine blk_drewN ?_ _ | refine blk_drew ?_ | refine blk_alloc ?_ _)); refine blk_far ?_ NB386_444.out _; (with_reducible repeat (first | refine blk_drewN ?_ _ | refine blk_drew ?_ | refine blk_alloc ?_ _)); refine blk_far ?_ NB386_444.out _; (with_reducible repeat (first | refine blk_drewN ?_ _ | refine blk_drew ?_ | refine blk_alloc ?_ _)); refine blk_far ?_ NB386_444.out _; (with_reducible repeat (first | refine blk_drewN ?_ _ | refine blk_drew ?_ | refine blk_alloc ?_ _)); refine blk_far ?_ NB386_444.out _; (with_reducible repeat (first | refine blk_drewN ?_ _ | refine blk_drew ?_ | refine blk_alloc ?_ _)); refine blk_far ?_ NB386_444.out _; (with_reducible repeat (first | refine blk_drewN ?_ _ | refine blk_drew ?_ | refine blk_alloc ?_ _)); refine blk_far ?_ NB386_444.out _; (with_reducible repeat (first | refine blk_drewN ?_ _ | refine blk_drew ?_ | refine blk_alloc ?_ _)); refine blk_far ?_ NB386_444.out _; (with_reducible repeat (first | refine blk_drewN ?_ _ | refine blk_drew ?_ | refine blk_alloc ?_ _)); refine blk_far ?_ NB386_444.out _; (with_reducible repeat (first | refine blk_drewN ?_ _ | refine blk_drew ?_ | refine blk_alloc ?_ _)); refine blk_far ?_ NB386_444.out _; (with_reducible repeat (first | refine blk_drewN ?_ _ | refine blk_drew ?_ | refine blk_alloc ?_ _)); refine blk_far ?_ NB386_444.out _; (with_reducible repeat (first | refine blk_drewN ?_ _ | refine blk_drew ?_ | refine blk_alloc ?_ _)); refine blk_far ?_ NB386_444.out _; (with_reducible repeat (first | refine blk_drewN ?_ _ | refine blk_drew ?_ | refine blk_alloc ?_ _)); exact BK386.out) hb); have n3_ := Aside0.mk (blk_below (g := gb397) (o := .cells pxAQ147_ 23 (0, 0)) (by (with_reducible repeat (first | refine blk_drewN ?_ _ | refine blk_drew ?_ | refine blk_alloc ?_ _)); refine blk_far ?_ NB397_444.out _; (with_reducible repeat (first | refine blk_drewN ?_ _ | refine blk_drew ?_ | refine blk_alloc ?_ _)); refine blk_far ?_ NB397_444.out _; (with_reducible repeat (first | refine blk_drewN ?_ _ | refine blk_drew ?_ | refine blk_alloc ?_ _)); refine blk_far ?_ NB397_444.out _; (with_reducible repeat (first | refine blk_drewN ?_ _ | refine blk_drew ?_ | refine blk_alloc ?_ _)); refine blk_far ?_ NB397_444.out _; (with_reducible repeat (first | refine blk_drewN ?_ _ | refine blk_drew ?_ | refine blk_alloc ?_ _)); refine blk_far ?_ NB397_444.out _; (with_reducible repeat (first | refine blk_drewN ?_ _ | refine blk_drew ?_ | refine blk_alloc ?_ _)); refine blk_far ?_ NB397_444.out _; (with_reducible repeat (first | refine blk_drewN ?_ _ | refine blk_drew ?_ | refine blk_alloc ?_ _)); refine blk_far ?_ NB397_444.out _; (with_reducible repeat (first | refine blk_drewN ?_ _ | refine blk_drew ?_ | refine blk_alloc ?_ _)); refine blk_far ?_ NB397_444.out _; (with_reducible repeat (first | refine blk_drewN ?_ _ | refine blk_drew ?_ | refine blk_alloc ?_ _)); refine blk_far ?_ NB397_444.out _; (with_reducible repeat (first | refine blk_drewN ?_ _ | refine blk_drew ?_ | refine blk_alloc ?_ _)); refine blk_far ?_ NB397_444.out _; (with_reducible repeat (first | refine blk_drewN ?_ _ | refine blk_drew ?_ | refine blk_alloc ?_ _)); refine blk_far ?_ NB397_444.out _; (with_reducible repeat (first | refine blk_drewN ?_ _ | refine blk_drew ?_ | refine blk_alloc ?_ _)); exact BK397.out) hb); have n4_ := Aside0.mk (blk_below (g := gb413) (o := .cells pxAQ141_ 32 (0, 0)) (by (with_reducible repeat (first | refine blk_drewN ?_ _ | refine blk_drew ?_ | refine blk_alloc ?_ _)); refine blk_far ?_ NB413_444.out _; (with_reducible repeat (first | refine blk_drewN ?_ _ | refine blk_drew ?_ | refine blk_alloc ?_ _)); refine blk_far ?_ NB413_444.out _; (with_reducible repeat (first | refine blk_drewN ?_ _ | refine blk_drew ?_ | refine blk_alloc ?_ _)); refine blk_far ?_ NB413_444.out _; (with_reducible repeat (first | refine blk_drewN ?_ _ | refine blk_drew ?_ | refine blk_alloc ?_ _)); refine blk_far ?_ NB413_444.out _; (with_reducible repeat (first | refine blk_drewN ?_ _ | refine blk_drew ?_ | refine blk_alloc ?_ _)); refine blk_far ?_ NB413_444.out _; (with_reducible repeat (first | refine blk_drewN ?_ _ | refine blk_drew ?_ | refine blk_alloc ?_ _)); refine blk_far ?_ NB413_444.out _; (with_reducible repeat (first | refine blk_drewN ?_ _ | refine blk_drew ?_ | refine blk_alloc ?_ _)); refine blk_far ?_ NB413_444.out _; (with_reducible repeat (first | refine blk_drewN ?_ _ | refine blk_drew ?_ | refine blk_alloc ?_ _)); refine blk_far ?_ NB413_444.out _; (with_reducible repeat (first | refine blk_drewN ?_ _ | refine blk_drew ?_ | refine blk_alloc ?_ _)); refine blk_far ?_ NB413_444.out _; (with_reducible repeat (first | refine blk_drewN ?_ _ | refine blk_drew ?_ | refine blk_alloc ?_ _)); refine blk_far ?_ NB413_444.out _; (with_reducible repeat (first | refine blk_drewN ?_ _ | refine blk_drew ?_ | refine blk_alloc ?_ _)); refine blk_far ?_ NB413_444.out _; (with_reducible repeat (first | refine blk_drewN ?_ _ | refine blk_drew ?_ | refine blk_alloc ?_ _)); exact BK413.out) hb); have n5_ := Aside0.mk (blk_below (g := gb429) (o := .cells pxAQ142_ 32 (0, 0)) (by (with_reducible repeat (first | refine blk_drewN ?_ _ | refine blk_drew ?_ | refine blk_alloc ?_ _)); refine blk_far ?_ NB429_444.out _; (with_reducible repeat (first | refine blk_drewN ?_ _ | refine blk_drew ?_ | refine blk_alloc ?_ _)); refine blk_far ?_ NB429_444.out _; (with_reducible repeat (first | refine blk_drewN ?_ _ | refine blk_drew ?_ | refine blk_alloc ?_ _)); refine blk_far ?_ NB429_444.out _; (with_reducible repeat (first | refine blk_drewN ?_ _ | refine blk_drew ?_ | refine blk_alloc ?_ _)); refine blk_far ?_ NB429_444.out _; (with_reducible repeat (first | refine blk_drewN ?_ _ | refine blk_drew ?_ | refine blk_alloc ?_ _)); refine blk_far ?_ NB429_444.out _; (with_reducible repeat (first | refine blk_drewN ?_ _ | refine blk_drew ?_ | refine blk_alloc ?_ _)); refine blk_far ?_ NB429_444.out _; (with_reducible repeat (first | refine blk_drewN ?_ _ | refine blk_drew ?_ | refine blk_alloc ?_ _)); refine blk_far ?_ NB429_444.out _; (with_reducible repeat (first | refine blk_drewN ?_ _ | refine blk_drew ?_ | refine blk_alloc ?_ _)); refine blk_far ?_ NB429_444.out _; (with_reducible repeat (first | refine blk_drewN ?_ _ | refine blk_drew ?_ | refine blk_alloc ?_ _)); refine blk_far ?_ NB429_444.out _; (with_reducible repeat (first | refine blk_drewN ?_ _ | refine blk_drew ?_ | refine blk_alloc ?_ _)); refine blk_far ?_ NB429_444.out _; (with_reducible repeat (first | refine blk_drewN ?_ _ | refine blk_drew ?_ | refine blk_alloc ?_ _)); refine blk_far ?_ NB429_444.out _; (with_reducible repeat (first | refine blk_drewN ?_ _ | refine blk_drew ?_ | refine blk_alloc ?_ _)); exact BK429.out) hb); have n6_ := Aside0.mk (blk_below (g := gb444) (o := .cells pxAQ143_ 37 (0, 0)) (by (with_reducible repeat (first | refine blk_drewN ?_ _ | refine blk_drew ?_ | refine blk_alloc ?_ _)); refine blk_put (cs := #[.int .i64 t430, .int .i64 t431, .int .i64 t432, .int .i64 t433, .int .i64 t434, .int .i64 t435, .int .i64 t436, .int .i64 t437, .int .i64 t438, .string t439, .slice none 0 0]) ?_ 10 _ rfl; (with_reducible repeat (first | refine blk_drewN ?_ _ | refine blk_drew ?_ | refine blk_alloc ?_ _)); refine blk_put (cs := #[.int .i64 t430, .int .i64 t431, .int .i64 t432, .int .i64 t433, .int .i64 t434, .int .i64 t435, .int .i64 t436, .int .i64 t437, .int .i64 t438, .string (⟨#[]⟩ : ByteArray), .slice none 0 0]) ?_ 9 _ rfl; (with_reducible repeat (first | refine blk_drewN ?_ _ | refine blk_drew ?_ | refine blk_alloc ?_ _)); refine blk_put (cs := #[.int .i64 t430, .int .i64 t431, .int .i64 t432, .int .i64 t433, .int .i64 t434, .int .i64 t435, .int .i64 t436, .int .i64 t437, .int .i64 0, .string (⟨#[]⟩ : ByteArray), .slice none 0 0]) ?_ 8 _ rfl; (with_reducible repeat (first | refine blk_drewN ?_ _ | refine blk_drew ?_ | refine blk_alloc ?_ _)); refine blk_put (cs := #[.int .i64 t430, .int .i64 t431, .int .i64 t432, .int .i64 t433, .int .i64 t434, .int .i64 t435, .int .i64 t436, .int .i64 0, .int .i64 0, .string (⟨#[]⟩ : ByteArray), .slice none 0 0]) ?_ 7 _ rfl; (with_reducible repeat (first | refine blk_drewN ?_ _ | refine blk_drew ?_ | refine blk_alloc ?_ _)); refine blk_put (cs := #[.int .i64 t430, .int .i64 t431, .int .i64 t432, .int .i64 t433, .int .i64 t434, .int .i64 t435, .int .i64 0, .int .i64 0, .int .i64 0, .string (⟨#[]⟩ : ByteArray), .slice none 0 0]) ?_ 6 _ rfl; (with_reducible repeat (first | refine blk_drewN ?_ _ | refine blk_drew ?_ | refine blk_alloc ?_ _)); refine blk_put (cs := #[.int .i64 t430, .int .i64 t431, .int .i64 t432, .int .i64 t433, .int .i64 t434, .int .i64 0, .int .i64 0, .int .i64 0, .int .i64 0, .string (⟨#[]⟩ : ByteArray), .slice none 0 0]) ?_ 5 _ rfl; (with_reducible repeat (first | refine blk_drewN ?_ _ | refine blk_drew ?_ | refine blk_alloc ?_ _)); refine blk_put (cs := #[.int .i64 t430, .int .i64 t431, .int .i64 t432, .int .i64 t433, .int .i64 0, .int .i64 0, .int .i64 0, .int .i64 0, .int .i64 0, .string (⟨#[]⟩ : ByteArray), .slice none 0 0]) ?_ 4 _ rfl; (with_reducible repeat (first | refine blk_drewN ?_ _ | refine blk_drew ?_ | refine blk_alloc ?_ _)); refine blk_put (cs := #[.int .i64 t430, .int .i64 t431, .int .i64 t432, .int .i64 0, .int .i64 0, .int .i64 0, .int .i64 0, .int .i64 0, .int .i64 0, .string (⟨#[]⟩ : ByteArray), .slice none 0 0]) ?_ 3 _ rfl; (with_reducible repeat (first | refine blk_drewN ?_ _ | refine blk_drew ?_ | refine blk_alloc ?_ _)); refine blk_put (cs := #[.int .i64 t430, .int .i64 t431, .int .i64 0, .int .i64 0, .int .i64 0, .int .i64 0, .int .i64 0, .int .i64 0, .int .i64 0, .string (⟨#[]⟩ : ByteArray), .slice none 0 0]) ?_ 2 _ rfl; (with_reducible repeat (first | refine blk_drewN ?_ _ | refine blk_drew ?_ | refine blk_alloc ?_ _)); refine blk_put (cs := #[.int .i64 t430, .int .i64 0, .int .i64 0, .int .i64 0, .int .i64 0, .int .i64 0, .int .i64 0, .int .i64 0, .int .i64 0, .string (⟨#[]⟩ : ByteArray), .slice none 0 0]) ?_ 1 _ rfl; (with_reducible repeat (first | refine blk_drewN ?_ _ | refine blk_drew ?_ | refine blk_alloc ?_ _)); refine blk_put (cs := pxAQ144_) ?_ 0 _ rfl; (with_reducible repeat (first | refine blk_drewN ?_ _ | refine blk_drew ?_ | refine blk_alloc ?_ _)); exact BK444.out) hb); have n7_ := Aside0.mk (below_step (by repeat (first | (with_reducible first | exact HB.out | apply below_alloc | apply pw_below_drewN | apply below_drew1 | refine below_set ?_ GE386.out | refine below_set ?_ GE397.out | refine below_set ?_ GE413.out | refine below_set ?_ GE429.out | refine below_set ?_ GE444.out) | exact HB.out)) hb); clear HO442; clear BK386; clear BK397; clear BK413; clear BK429; clear BK444; clear HB; have HO442 := n0_; have HO457 := n1_; have BK386 := n2_; have BK397 := n3_; have BK413 := n4_; have BK429 := n5_; have BK444 := n6_; have HB := n7_; clear n0_ n1_ n2_ n3_ n4_ n5_ n6_ n7_; (try clear hb); (try clear hb2); (try clear hk); (try clear hi); (try clear ho0)) | ((with_reducible refine gate_dst (N := 16) rfl ?_); refine box_event ?hg (N := 16) ?hd (cs := pxAQ144_) (t := 37) ?hr ?_; (case hd => rfl); (case hg => rfl); (case hr => first | (go_simp; done) | (go_simp; rfl)); intro gb459 hg w47 hbox hb; have n0_ := Aside0.mk (Kd.R_below (by (with_reducible repeat (first | apply Kd.R_alloc | apply Kd.R_drewN | apply Kd.R_drew)); exact HO442.out) hb); have n1_ := Aside0.mk (Kd.R_below (by (with_reducible repeat (first | apply Kd.R_alloc | apply Kd.R_drewN | apply Kd.R_drew)); exact HO457.out) hb); have n2_ := Aside0.mk (blk_below (g := gb386) (o := .cells pxAQ146_ 23 (0, 0)) (by (with_reducible repeat (first | refine blk_drewN ?_ _ | refine blk_drew ?_ | refine blk_alloc ?_ _)); exact BK386.out) hb); have n3_ := Aside0.mk (blk_below (g := gb397) (o := .cells pxAQ147_ 23 (0, 0)) (by (with_reducible repeat (first | refine blk_drewN ?_ _ | refine blk_drew ?_ | refine blk_alloc ?_ _)); exact BK397.out) hb); have n4_ := Aside0.mk (blk_below (g := gb413) (o := .cells pxAQ141_ 32 (0, 0)) (by (with_reducible repeat (first | refine blk_drewN ?_ _ | refine blk_drew ?_ | refine blk_alloc ?_ _)); exact BK413.out) hb); have n5_ := Aside0.mk (blk_below (g := gb429) (o := .cells pxAQ142_ 32 (0, 0)) (by (with_reducible repeat (first | refine blk_drewN ?_ _ | refine blk_drew ?_ | refine blk_alloc ?_ _)); exact BK429.out) hb); have n6_ := Aside0.mk (blk_below (g := gb444) (o := .cells pxAQ143_ 37 (0, 0)) (by (with_reducible repeat (first | refine blk_drewN ?_ _ | refine blk_drew ?_ | refine blk_alloc ?_ _)); exact BK444.out) hb); have n7_ := Aside0.mk (below_step (by repeat (first | (with_reducible first | exact HB.out | apply below_alloc | apply pw_below_drewN | apply below_drew1 | refine below_set ?_ GE386.out | refine below_set ?_ GE397.out | refine below_set ?_ GE413.out | refine below_set ?_ GE429.out | refine below_set ?_ GE444.out) | exact HB.out)) hb); have n8_ := Aside0.mk (hbox); have n9_ := Aside0.mk ((by rw [hg]; exact (below_size (by repeat (first | (with_reducible first | exact HB.out | apply below_alloc | apply pw_below_drewN | apply below_drew1 | refine below_set ?_ GE386.out | refine below_set ?_ GE397.out | refine below_set ?_ GE413.out | refine below_set ?_ GE429.out | refine below_set ?_ GE444.out) | exact HB.out))) : w.heap.size ≤ gb459)); have n10_ := Aside0.mk ((by rw [hg]; exact (below_size (by repeat (first | (with_reducible first | exact HB.out | apply below_alloc | apply pw_below_drewN | apply below_drew1 | refine below_set ?_ GE386.out | refine below_set ?_ GE397.out | refine below_set ?_ GE413.out | refine below_set ?_ GE429.out | refine below_set ?_ GE444.out) | exact HB.out))) : w.heap.size ≤ gb459)); have n11_ := Aside0.mk ((by rw [hg]; exact Nat.ne_of_lt (blk_lt (g := gb386) (o := .cells pxAQ146_ 23 (0, 0)) (by (with_reducible repeat (first | refine blk_drewN ?_ _ | refine blk_drew ?_ | refine blk_alloc ?_ _)); exact BK386.out)) : gb386 ≠ gb459)); have n12_ := Aside0.mk ((by rw [hg]; exact Nat.ne_of_gt (blk_lt (g := gb386) (o := .cells pxAQ146_ 23 (0, 0)) (by (with_reducible repeat (first | refine blk_drewN ?_ _ | refine blk_drew ?_ | refine blk_alloc ?_ _)); exact BK386.out)) : gb459 ≠ gb386)); have n13_ := Aside0.mk ((by rw [hg]; exact Nat.ne_of_lt (blk_lt (g := gb397) (o := .cells pxAQ147_ 23 (0, 0)) (by (with_reducible repeat (first | refine blk_drewN ?_ _ | refine blk_drew ?_ | refine blk_alloc ?_ _)); exact BK397.out)) : gb397 ≠ gb459)); have n14_ := Aside0.mk ((by rw [hg]; exact Nat.ne_of_gt (blk_lt (g := gb397) (o := .cells pxAQ147_ 23 (0, 0)) (by (with_reducible repeat (first | refine blk_drewN ?_ _ | refine blk_drew ?_ | refine blk_alloc ?_ _)); exact BK397.out)) : gb459 ≠ gb397)); have n15_ := Aside0.mk ((by rw [hg]; exact Nat.ne_of_lt (blk_lt (g := gb413) (o := .cells pxAQ141_ 32 (0, 0)) (by (with_reducible repeat (first | refine blk_drewN ?_ _ | refine blk_drew ?_ | refine blk_alloc ?_ _)); exact BK413.out)) : gb413 ≠ gb459)); have n16_ := Aside0.mk ((by rw [hg]; exact Nat.ne_of_gt (blk_lt (g := gb413) (o := .cells pxAQ141_ 32 (0, 0)) (by (with_reducible repeat (first | refine blk_drewN ?_ _ | refine blk_drew ?_ | refine blk_alloc ?_ _)); exact BK413.out)) : gb459 ≠ gb413)); have n17_ := Aside0.mk ((by rw [hg]; exact Nat.ne_of_lt (blk_lt (g := gb429) (o := .cells pxAQ142_ 32 (0, 0)) (by (with_reducible repeat (first | refine blk_drewN ?_ _ | refine blk_drew ?_ | refine blk_alloc ?_ _)); exact BK429.out)) : gb429 ≠ gb459)); have n18_ := Aside0.mk ((by rw [hg]; exact Nat.ne_of_gt (blk_lt (g := gb429) (o := .cells pxAQ142_ 32 (0, 0)) (by (with_reducible repeat (first | refine blk_drewN ?_ _ | refine blk_drew ?_ | refine blk_alloc ?_ _)); exact BK429.out)) : gb459 ≠ gb429)); have n19_ := Aside0.mk ((by rw [hg]; exact Nat.ne_of_lt (blk_lt (g := gb444) (o := .cells pxAQ143_ 37 (0, 0)) (by (with_reducible repeat (first | refine blk_drewN ?_ _ | refine blk_drew ?_ | refine blk_alloc ?_ _)); exact BK444.out)) : gb444 ≠ gb459)); have n20_ := Aside0.mk ((by rw [hg]; exact Nat.ne_of_gt (blk_lt (g := gb444) (o := .cells pxAQ143_ 37 (0, 0)) (by (with_reducible repeat (first | refine blk_drewN ?_ _ | refine blk_drew ?_ | refine blk_alloc ?_ _)); exact BK444.out)) : gb459 ≠ gb444)); clear HO442; clear HO457; clear BK386; clear BK397; clear BK413; clear BK429; clear BK444; clear HB; have HO442 := n0_; have HO457 := n1_; have BK386 := n2_; have BK397 := n3_; have BK413 := n4_; have BK429 := n5_; have BK444 := n6_; have HB := n7_; have BK459 := n8_; have GW459 := n9_; have GE459 := n10_; have NB386_459 := n11_; have NB459_386 := n12_; have NB397_459 := n13_; have NB459_397 := n14_; have NB413_459 := n15_; have NB459_413 := n16_; have NB429_459 := n17_; have NB459_429 := n18_; have NB444_459 := n19_; have NB459_444 := n20_; clear n0_ n1_ n2_ n3_ n4_ n5_ n6_ n7_ n8_ n9_ n10_ n11_ n12_ n13_ n14_ n15_ n16_ n17_ n18_ n19_ n20_; clear hb hbox hg; have hnb48 := NB459_386.out; have hnc48 := NB386_459.out; have hnb49 := NB459_397.out; have hnc49 := NB397_459.out; have hnb50 := NB459_413.out; have hnc50 := NB413_459.out; have hnb51 := NB459_429.out; have hnc51 := NB429_459.out; have hnb52 := NB459_444.out; have hnc52 := NB444_459.out; pxhQ14_ hcz53_0 w47 gb459 0 (.int .i64 0) BK459; pxhQ14_ hcz53_1 w47 gb459 1 (.int .i64 0) BK459; pxhQ14_ hcz53_2 w47 gb459 2 (.int .i64 0) BK459; pxhQ14_ hcz53_3 w47 gb459 3 (.int .i64 0) BK459; pxhQ14_ hcz53_4 w47 gb459 4 (.int .i64 0) BK459; pxhQ14_ hcz53_5 w47 gb459 5 (.int .i64 0) BK459; pxhQ14_ hcz53_6 w47 gb459 6 (.int .i64 0) BK459; pxhQ14_ hcz53_7 w47 gb459 7 (.int .i64 0) BK459; pxhQ14_ hcz53_8 w47 gb459 8 (.int .i64 0) BK459; pxhQ14_ hcz53_9 w47 gb459 9 (.string (⟨#[]⟩ : ByteArray)) BK459; pxhQ14_ hcz53_10 w47 gb459 10 (.slice none 0 0) BK459; pxfQ14_ hfz53_0 BK459 0; pxfQ14_ hfz53_1 BK459 1; pxfQ14_ hfz53_2 BK459 2; pxfQ14_ hfz53_3 BK459 3; pxfQ14_ hfz53_4 BK459 4; pxfQ14_ hfz53_5 BK459 5; pxfQ14_ hfz53_6 BK459 6; pxfQ14_ hfz53_7 BK459 7; pxfQ14_ hfz53_8 BK459 8; pxfQ14_ hfz53_9 BK459 9; pxfQ14_ hfz53_10 BK459 10; obtain ⟨Ao54, co54, eo54⟩ := Kd.R_slice HO457.out; subst eo54; pxhQ14_ hcz55_0 w47 gb444 0 (.int .i64 t430) BK444; pxhQ14_ hcz55_1 w47 gb444 1 (.int .i64 t431) BK444; pxhQ14_ hcz55_2 w47 gb444 2 (.int .i64 t432) BK444; pxhQ14_ hcz55_3 w47 gb444 3 (.int .i64 t433) BK444; pxhQ14_ hcz55_4 w47 gb444 4 (.int .i64 t434) BK444; pxhQ14_ hcz55_5 w47 gb444 5 (.int .i64 t435) BK444; pxhQ14_ hcz55_6 w47 gb444 6 (.int .i64 t436) BK444; pxhQ14_ hcz55_7 w47 gb444 7 (.int .i64 t437) BK444; pxhQ14_ hcz55_8 w47 gb444 8 (.int .i64 t438) BK444; pxhQ14_ hcz55_9 w47 gb444 9 (.string t439) BK444; pxhQ14_ hcz55_10 w47 gb444 10 (.slice Ao45 t440.length co45) BK444; pxfQ14_ hfz55_0 BK444 0; pxfQ14_ hfz55_1 BK444 1; pxfQ14_ hfz55_2 BK444 2; pxfQ14_ hfz55_3 BK444 3; pxfQ14_ hfz55_4 BK444 4; pxfQ14_ hfz55_5 BK444 5; pxfQ14_ hfz55_6 BK444 6; pxfQ14_ hfz55_7 BK444 7; pxfQ14_ hfz55_8 BK444 8; pxfQ14_ hfz55_9 BK444 9; pxfQ14_ hfz55_10 BK444 10) | ((with_reducible refine gate_callee (f := 14) rfl ?_); refine goesL_ (some 58) rfl rfl Try.func14 (by kernel_rfl) rfl #[.agg pxAQ143_, .agg #[.int .i64 t445, .int .i64 t446, .int .i64 t447, .int .i64 t448, .int .i64 t449, .int .i64 t450, .int .i64 t451, .int .i64 t452, .int .i64 t453, .string t454, .slice Ao54 t455.length co54]] rfl (by (try simp only [List.map_toArray, List.map_cons, List.map_nil]); first | done | rfl | (simp only [List.length_drop, List.length_take]; rfl)) ?_; (with_reducible refine (copyholdref15_Same.calls k t430 t431 t432 t433 t434 t435 t436 t437 t438 t439 _ _ t440 t445 t446 t447 t448 t449 t450 t451 t452 t453 t454 _ _ t455 true _ ?side1 ?side2 ?side3 ?side4 A11.out).mono ?_); (case side1 => refine (Kd.R_reads' (e := 9) (base := w.heap.size) (ok := fun k_ => (True ∧ some k_ ≠ (.slice Ao54 t455.length co54 : Value).ownBlock)) (n := t440.length) (c := co45) ?_).2.2; exact (by (with_reducible repeat (first | apply Kd.R_alloc | apply Kd.R_drewN | apply Kd.R_drew)); exact (Kd.R_mono (Kd.R_far (p := ⟨gb459, 10, none⟩) (Kd.R_far (p := ⟨gb459, 9, none⟩) (Kd.R_far (p := ⟨gb459, 8, none⟩) (Kd.R_far (p := ⟨gb459, 7, none⟩) (Kd.R_far (p := ⟨gb459, 6, none⟩) (Kd.R_far (p := ⟨gb459, 5, none⟩) (Kd.R_far (p := ⟨gb459, 4, none⟩) (Kd.R_far (p := ⟨gb459, 3, none⟩) (Kd.R_far (p := ⟨gb459, 2, none⟩) (Kd.R_far (p := ⟨gb459, 1, none⟩) (Kd.R_far (p := ⟨gb459, 0, none⟩) (Kd.R_types HO442.out BK459.out (by decide)) (fun _ hk => hk.2) (.int .i64 t445)) (fun _ hk => hk.2) (.int .i64 t446)) (fun _ hk => hk.2) (.int .i64 t447)) (fun _ hk => hk.2) (.int .i64 t448)) (fun _ hk => hk.2) (.int .i64 t449)) (fun _ hk => hk.2) (.int .i64 t450)) (fun _ hk => hk.2) (.int .i64 t451)) (fun _ hk => hk.2) (.int .i64 t452)) (fun _ hk => hk.2) (.int .i64 t453)) (fun _ hk => hk.2) (.string t454)) (fun _ hk => hk.2) (.slice Ao54 t455.length co54)) (fun _ h_ => h_.1)))); (case side2 => exact (Kd.R_reads' HO442.out).2.1); (case side3 => refine (Kd.R_reads' (e := 9) (base := w.heap.size) (ok := fun k_ => (True ∧ some k_ ≠ (.slice Ao45 t440.length co45 : Value).ownBlock)) (n := t455.length) (c := co54) ?_).2.2; exact (by (with_reducible repeat (first | apply Kd.R_alloc | apply Kd.R_drewN | apply Kd.R_drew)); exact (Kd.R_mono (Kd.R_far (p := ⟨gb459, 10, none⟩) (Kd.R_far (p := ⟨gb459, 9, none⟩) (Kd.R_far (p := ⟨gb459, 8, none⟩) (Kd.R_far (p := ⟨gb459, 7, none⟩) (Kd.R_far (p := ⟨gb459, 6, none⟩) (Kd.R_far (p := ⟨gb459, 5, none⟩) (Kd.R_far (p := ⟨gb459, 4, none⟩) (Kd.R_far (p := ⟨gb459, 3, none⟩) (Kd.R_far (p := ⟨gb459, 2, none⟩) (Kd.R_far (p := ⟨gb459, 1, none⟩) (Kd.R_far (p := ⟨gb459, 0, none⟩) (Kd.R_types HO457.out BK459.out (by decide)) (fun _ hk => hk.2) (.int .i64 t445)) (fun _ hk => hk.2) (.int .i64 t446)) (fun _ hk => hk.2) (.int .i64 t447)) (fun _ hk => hk.2) (.int .i64 t448)) (fun _ hk => hk.2) (.int .i64 t449)) (fun _ hk => hk.2) (.int .i64 t450)) (fun _ hk => hk.2) (.int .i64 t451)) (fun _ hk => hk.2) (.int .i64 t452)) (fun _ hk => hk.2) (.int .i64 t453)) (fun _ hk => hk.2) (.string t454)) (fun _ hk => hk.2) (.slice Ao54 t455.length co54)) (fun _ h_ => h_.1)))); (case side4 => exact (Kd.R_reads' HO457.out).2.1); rintro e w56 ⟨rfl, hb⟩; refine ⟨_, rfl, ?_⟩; have n0_ := Aside0.mk (Kd.R_below (by (with_reducible repeat (first | apply Kd.R_alloc | apply Kd.R_drewN | apply Kd.R_drew)); exact (Kd.R_mono (Kd.R_far (p := ⟨gb459, 10, none⟩) (Kd.R_far (p := ⟨gb459, 9, none⟩) (Kd.R_far (p := ⟨gb459, 8, none⟩) (Kd.R_far (p := ⟨gb459, 7, none⟩) (Kd.R_far (p := ⟨gb459, 6, none⟩) (Kd.R_far (p := ⟨gb459, 5, none⟩) (Kd.R_far (p := ⟨gb459, 4, none⟩) (Kd.R_far (p := ⟨gb459, 3, none⟩) (Kd.R_far (p := ⟨gb459, 2, none⟩) (Kd.R_far (p := ⟨gb459, 1, none⟩) (Kd.R_far (p := ⟨gb459, 0, none⟩) (Kd.R_types HO442.out BK459.out (by decide)) (fun _ hk => hk.2) (.int .i64 t445)) (fun _ hk => hk.2) (.int .i64 t446)) (fun _ hk => hk.2) (.int .i64 t447)) (fun _ hk => hk.2) (.int .i64 t448)) (fun _ hk => hk.2) (.int .i64 t449)) (fun _ hk => hk.2) (.int .i64 t450)) (fun _ hk => hk.2) (.int .i64 t451)) (fun _ hk => hk.2) (.int .i64 t452)) (fun _ hk => hk.2) (.int .i64 t453)) (fun _ hk => hk.2) (.string t454)) (fun _ hk => hk.2) (.slice Ao54 t455.length co54)) (fun _ h_ => h_.1))) hb); have n1_ := Aside0.mk (Kd.R_below (by (with_reducible repeat (first | apply Kd.R_alloc | apply Kd.R_drewN | apply Kd.R_drew)); exact (Kd.R_mono (Kd.R_far (p := ⟨gb459, 10, none⟩) (Kd.R_far (p := ⟨gb459, 9, none⟩) (Kd.R_far (p := ⟨gb459, 8, none⟩) (Kd.R_far (p := ⟨gb459, 7, none⟩) (Kd.R_far (p := ⟨gb459, 6, none⟩) (Kd.R_far (p := ⟨gb459, 5, none⟩) (Kd.R_far (p := ⟨gb459, 4, none⟩) (Kd.R_far (p := ⟨gb459, 3, none⟩) (Kd.R_far (p := ⟨gb459, 2, none⟩) (Kd.R_far (p := ⟨gb459, 1, none⟩) (Kd.R_far (p := ⟨gb459, 0, none⟩) (Kd.R_types HO457.out BK459.out (by decide)) (fun _ hk => hk.2) (.int .i64 t445)) (fun _ hk => hk.2) (.int .i64 t446)) (fun _ hk => hk.2) (.int .i64 t447)) (fun _ hk => hk.2) (.int .i64 t448)) (fun _ hk => hk.2) (.int .i64 t449)) (fun _ hk => hk.2) (.int .i64 t450)) (fun _ hk => hk.2) (.int .i64 t451)) (fun _ hk => hk.2) (.int .i64 t452)) (fun _ hk => hk.2) (.int .i64 t453)) (fun _ hk => hk.2) (.string t454)) (fun _ hk => hk.2) (.slice Ao54 t455.length co54)) (fun _ h_ => h_.1))) hb); have n2_ := Aside0.mk (blk_below (g := gb386) (o := .cells pxAQ146_ 23 (0, 0)) (by (with_reducible repeat (first | refine blk_drewN ?_ _ | refine blk_drew ?_ | refine blk_alloc ?_ _)); refine blk_far ?_ NB386_459.out _; (with_reducible repeat (first | refine blk_drewN ?_ _ | refine blk_drew ?_ | refine blk_alloc ?_ _)); refine blk_far ?_ NB386_459.out _; (with_reducible repeat (first | refine blk_drewN ?_ _ | refine blk_drew ?_ | refine blk_alloc ?_ _)); refine blk_far ?_ NB386_459.out _; (with_reducible repeat (first | refine blk_drewN ?_ _ | refine blk_drew ?_ | refine blk_alloc ?_ _)); refine blk_far ?_ NB386_459.out _; (with_reducible repeat (first | refine blk_drewN ?_ _ | refine blk_drew ?_ | refine blk_alloc ?_ _)); refine blk_far ?_ NB386_459.out _; (with_reducible repeat (first | refine blk_drewN ?_ _ | refine blk_drew ?_ | refine blk_alloc ?_ _)); refine blk_far ?_ NB386_459.out _; (with_reducible repeat (first | refine blk_drewN ?_ _ | refine blk_drew ?_ | refine blk_alloc ?_ _)); refine blk_far ?_ NB386_459.out _; (with_reducible repeat (first | refine blk_drewN ?_ _ | refine blk_drew ?_ | refine blk_alloc ?_ _)); refine blk_far ?_ NB386_459.out _; (with_reducible repeat (first | refine blk_drewN ?_ _ | refine blk_drew ?_ | refine blk_alloc ?_ _)); refine blk_far ?_ NB386_459.out _; (with_reducible repeat (first | refine blk_drewN ?_ _ | refine blk_drew ?_ | refine blk_alloc ?_ _)); refine blk_far ?_ NB386_459.out _; (with_reducible repeat (first | refine blk_drewN ?_ _ | refine blk_drew ?_ | refine blk_alloc ?_ _)); refine blk_far ?_ NB386_459.out _; (with_reducible repeat (first | refine blk_drewN ?_ _ | refine blk_drew ?_ | refine blk_alloc ?_ _)); exact BK386.out) hb); have n3_ := Aside0.mk (blk_below (g := gb397) (o := .cells pxAQ147_ 23 (0, 0)) (by (with_reducible repeat (first | refine blk_drewN ?_ _ | refine blk_drew ?_ | refine blk_alloc ?_ _)); refine blk_far ?_ NB397_459.out _; (with_reducible repeat (first | refine blk_drewN ?_ _ | refine blk_drew ?_ | refine blk_alloc ?_ _)); refine blk_far ?_ NB397_459.out _; (with_reducible repeat (first | refine blk_drewN ?_ _ | refine blk_drew ?_ | refine blk_alloc ?_ _)); refine blk_far ?_ NB397_459.out _; (with_reducible repeat (first | refine blk_drewN ?_ _ | refine blk_drew ?_ | refine blk_alloc ?_ _)); refine blk_far ?_ NB397_459.out _; (with_reducible repeat (first | refine blk_drewN ?_ _ | refine blk_drew ?_ | refine blk_alloc ?_ _)); refine blk_far ?_ NB397_459.out _; (with_reducible repeat (first | refine blk_drewN ?_ _ | refine blk_drew ?_ | refine blk_alloc ?_ _)); refine blk_far ?_ NB397_459.out _; (with_reducible repeat (first | refine blk_drewN ?_ _ | refine blk_drew ?_ | refine blk_alloc ?_ _)); refine blk_far ?_ NB397_459.out _; (with_reducible repeat (first | refine blk_drewN ?_ _ | refine blk_drew ?_ | refine blk_alloc ?_ _)); refine blk_far ?_ NB397_459.out _; (with_reducible repeat (first | refine blk_drewN ?_ _ | refine blk_drew ?_ | refine blk_alloc ?_ _)); refine blk_far ?_ NB397_459.out _; (with_reducible repeat (first | refine blk_drewN ?_ _ | refine blk_drew ?_ | refine blk_alloc ?_ _)); refine blk_far ?_ NB397_459.out _; (with_reducible repeat (first | refine blk_drewN ?_ _ | refine blk_drew ?_ | refine blk_alloc ?_ _)); refine blk_far ?_ NB397_459.out _; (with_reducible repeat (first | refine blk_drewN ?_ _ | refine blk_drew ?_ | refine blk_alloc ?_ _)); exact BK397.out) hb); have n4_ := Aside0.mk (blk_below (g := gb413) (o := .cells pxAQ141_ 32 (0, 0)) (by (with_reducible repeat (first | refine blk_drewN ?_ _ | refine blk_drew ?_ | refine blk_alloc ?_ _)); refine blk_far ?_ NB413_459.out _; (with_reducible repeat (first | refine blk_drewN ?_ _ | refine blk_drew ?_ | refine blk_alloc ?_ _)); refine blk_far ?_ NB413_459.out _; (with_reducible repeat (first | refine blk_drewN ?_ _ | refine blk_drew ?_ | refine blk_alloc ?_ _)); refine blk_far ?_ NB413_459.out _; (with_reducible repeat (first | refine blk_drewN ?_ _ | refine blk_drew ?_ | refine blk_alloc ?_ _)); refine blk_far ?_ NB413_459.out _; (with_reducible repeat (first | refine blk_drewN ?_ _ | refine blk_drew ?_ | refine blk_alloc ?_ _)); refine blk_far ?_ NB413_459.out _; (with_reducible repeat (first | refine blk_drewN ?_ _ | refine blk_drew ?_ | refine blk_alloc ?_ _)); refine blk_far ?_ NB413_459.out _; (with_reducible repeat (first | refine blk_drewN ?_ _ | refine blk_drew ?_ | refine blk_alloc ?_ _)); refine blk_far ?_ NB413_459.out _; (with_reducible repeat (first | refine blk_drewN ?_ _ | refine blk_drew ?_ | refine blk_alloc ?_ _)); refine blk_far ?_ NB413_459.out _; (with_reducible repeat (first | refine blk_drewN ?_ _ | refine blk_drew ?_ | refine blk_alloc ?_ _)); refine blk_far ?_ NB413_459.out _; (with_reducible repeat (first | refine blk_drewN ?_ _ | refine blk_drew ?_ | refine blk_alloc ?_ _)); refine blk_far ?_ NB413_459.out _; (with_reducible repeat (first | refine blk_drewN ?_ _ | refine blk_drew ?_ | refine blk_alloc ?_ _)); refine blk_far ?_ NB413_459.out _; (with_reducible repeat (first | refine blk_drewN ?_ _ | refine blk_drew ?_ | refine blk_alloc ?_ _)); exact BK413.out) hb); have n5_ := Aside0.mk (blk_below (g := gb429) (o := .cells pxAQ142_ 32 (0, 0)) (by (with_reducible repeat (first | refine blk_drewN ?_ _ | refine blk_drew ?_ | refine blk_alloc ?_ _)); refine blk_far ?_ NB429_459.out _; (with_reducible repeat (first | refine blk_drewN ?_ _ | refine blk_drew ?_ | refine blk_alloc ?_ _)); refine blk_far ?_ NB429_459.out _; (with_reducible repeat (first | refine blk_drewN ?_ _ | refine blk_drew ?_ | refine blk_alloc ?_ _)); refine blk_far ?_ NB429_459.out _; (with_reducible repeat (first | refine blk_drewN ?_ _ | refine blk_drew ?_ | refine blk_alloc ?_ _)); refine blk_far ?_ NB429_459.out _; (with_reducible repeat (first | refine blk_drewN ?_ _ | refine blk_drew ?_ | refine blk_alloc ?_ _)); refine blk_far ?_ NB429_459.out _; (with_reducible repeat (first | refine blk_drewN ?_ _ | refine blk_drew ?_ | refine blk_alloc ?_ _)); refine blk_far ?_ NB429_459.out _; (with_reducible repeat (first | refine blk_drewN ?_ _ | refine blk_drew ?_ | refine blk_alloc ?_ _)); refine blk_far ?_ NB429_459.out _; (with_reducible repeat (first | refine blk_drewN ?_ _ | refine blk_drew ?_ | refine blk_alloc ?_ _)); refine blk_far ?_ NB429_459.out _; (with_reducible repeat (first | refine blk_drewN ?_ _ | refine blk_drew ?_ | refine blk_alloc ?_ _)); refine blk_far ?_ NB429_459.out _; (with_reducible repeat (first | refine blk_drewN ?_ _ | refine blk_drew ?_ | refine blk_alloc ?_ _)); refine blk_far ?_ NB429_459.out _; (with_reducible repeat (first | refine blk_drewN ?_ _ | refine blk_drew ?_ | refine blk_alloc ?_ _)); refine blk_far ?_ NB429_459.out _; (with_reducible repeat (first | refine blk_drewN ?_ _ | refine blk_drew ?_ | refine blk_alloc ?_ _)); exact BK429.out) hb); have n6_ := Aside0.mk (blk_below (g := gb444) (o := .cells pxAQ143_ 37 (0, 0)) (by (with_reducible repeat (first | refine blk_drewN ?_ _ | refine blk_drew ?_ | refine blk_alloc ?_ _)); refine blk_far ?_ NB444_459.out _; (with_reducible repeat (first | refine blk_drewN ?_ _ | refine blk_drew ?_ | refine blk_alloc ?_ _)); refine blk_far ?_ NB444_459.out _; (with_reducible repeat (first | refine blk_drewN ?_ _ | refine blk_drew ?_ | refine blk_alloc ?_ _)); refine blk_far ?_ NB444_459.out _; (with_reducible repeat (first | refine blk_drewN ?_ _ | refine blk_drew ?_ | refine blk_alloc ?_ _)); refine blk_far ?_ NB444_459.out _; (with_reducible repeat (first | refine blk_drewN ?_ _ | refine blk_drew ?_ | refine blk_alloc ?_ _)); refine blk_far ?_ NB444_459.out _; (with_reducible repeat (first | refine blk_drewN ?_ _ | refine blk_drew ?_ | refine blk_alloc ?_ _)); refine blk_far ?_ NB444_459.out _; (with_reducible repeat (first | refine blk_drewN ?_ _ | refine blk_drew ?_ | refine blk_alloc ?_ _)); refine blk_far ?_ NB444_459.out _; (with_reducible repeat (first | refine blk_drewN ?_ _ | refine blk_drew ?_ | refine blk_alloc ?_ _)); refine blk_far ?_ NB444_459.out _; (with_reducible repeat (first | refine blk_drewN ?_ _ | refine blk_drew ?_ | refine blk_alloc ?_ _)); refine blk_far ?_ NB444_459.out _; (with_reducible repeat (first | refine blk_drewN ?_ _ | refine blk_drew ?_ | refine blk_alloc ?_ _)); refine blk_far ?_ NB444_459.out _; (with_reducible repeat (first | refine blk_drewN ?_ _ | refine blk_drew ?_ | refine blk_alloc ?_ _)); refine blk_far ?_ NB444_459.out _; (with_reducible repeat (first | refine blk_drewN ?_ _ | refine blk_drew ?_ | refine blk_alloc ?_ _)); exact BK444.out) hb); have n7_ := Aside0.mk (blk_below (g := gb459) (o := .cells #[.int .i64 t445, .int .i64 t446, .int .i64 t447, .int .i64 t448, .int .i64 t449, .int .i64 t450, .int .i64 t451, .int .i64 t452, .int .i64 t453, .string t454, .slice Ao54 t455.length co54] 37 (0, 0)) (by (with_reducible repeat (first | refine blk_drewN ?_ _ | refine blk_drew ?_ | refine blk_alloc ?_ _)); refine blk_put (cs := #[.int .i64 t445, .int .i64 t446, .int .i64 t447, .int .i64 t448, .int .i64 t449, .int .i64 t450, .int .i64 t451, .int .i64 t452, .int .i64 t453, .string t454, .slice none 0 0]) ?_ 10 _ rfl; (with_reducible repeat (first | refine blk_drewN ?_ _ | refine blk_drew ?_ | refine blk_alloc ?_ _)); refine blk_put (cs := #[.int .i64 t445, .int .i64 t446, .int .i64 t447, .int .i64 t448, .int .i64 t449, .int .i64 t450, .int .i64 t451, .int .i64 t452, .int .i64 t453, .string (⟨#[]⟩ : ByteArray), .slice none 0 0]) ?_ 9 _ rfl; (with_reducible repeat (first | refine blk_drewN ?_ _ | refine blk_drew ?_ | refine blk_alloc ?_ _)); refine blk_put (cs := #[.int .i64 t445, .int .i64 t446, .int .i64 t447, .int .i64 t448, .int .i64 t449, .int .i64 t450, .int .i64 t451, .int .i64 t452, .int .i64 0, .string (⟨#[]⟩ : ByteArray), .slice none 0 0]) ?_ 8 _ rfl; (with_reducible repeat (first | refine blk_drewN ?_ _ | refine blk_drew ?_ | refine blk_alloc ?_ _)); refine blk_put (cs := #[.int .i64 t445, .int .i64 t446, .int .i64 t447, .int .i64 t448, .int .i64 t449, .int .i64 t450, .int .i64 t451, .int .i64 0, .int .i64 0, .string (⟨#[]⟩ : ByteArray), .slice none 0 0]) ?_ 7 _ rfl; (with_reducible repeat (first | refine blk_drewN ?_ _ | refine blk_drew ?_ | refine blk_alloc ?_ _)); refine blk_put (cs := #[.int .i64 t445, .int .i64 t446, .int .i64 t447, .int .i64 t448, .int .i64 t449, .int .i64 t450, .int .i64 0, .int .i64 0, .int .i64 0, .string (⟨#[]⟩ : ByteArray), .slice none 0 0]) ?_ 6 _ rfl; (with_reducible repeat (first | refine blk_drewN ?_ _ | refine blk_drew ?_ | refine blk_alloc ?_ _)); refine blk_put (cs := #[.int .i64 t445, .int .i64 t446, .int .i64 t447, .int .i64 t448, .int .i64 t449, .int .i64 0, .int .i64 0, .int .i64 0, .int .i64 0, .string (⟨#[]⟩ : ByteArray), .slice none 0 0]) ?_ 5 _ rfl; (with_reducible repeat (first | refine blk_drewN ?_ _ | refine blk_drew ?_ | refine blk_alloc ?_ _)); refine blk_put (cs := #[.int .i64 t445, .int .i64 t446, .int .i64 t447, .int .i64 t448, .int .i64 0, .int .i64 0, .int .i64 0, .int .i64 0, .int .i64 0, .string (⟨#[]⟩ : ByteArray), .slice none 0 0]) ?_ 4 _ rfl; (with_reducible repeat (first | refine blk_drewN ?_ _ | refine blk_drew ?_ | refine blk_alloc ?_ _)); refine blk_put (cs := #[.int .i64 t445, .int .i64 t446, .int .i64 t447, .int .i64 0, .int .i64 0, .int .i64 0, .int .i64 0, .int .i64 0, .int .i64 0, .string (⟨#[]⟩ : ByteArray), .slice none 0 0]) ?_ 3 _ rfl; (with_reducible repeat (first | refine blk_drewN ?_ _ | refine blk_drew ?_ | refine blk_alloc ?_ _)); refine blk_put (cs := #[.int .i64 t445, .int .i64 t446, .int .i64 0, .int .i64 0, .int .i64 0, .int .i64 0, .int .i64 0, .int .i64 0, .int .i64 0, .string (⟨#[]⟩ : ByteArray), .slice none 0 0]) ?_ 2 _ rfl; (with_reducible repeat (first | refine blk_drewN ?_ _ | refine blk_drew ?_ | refine blk_alloc ?_ _)); refine blk_put (cs := #[.int .i64 t445, .int .i64 0, .int .i64 0, .int .i64 0, .int .i64 0, .int .i64 0, .int .i64 0, .int .i64 0, .int .i64 0, .string (⟨#[]⟩ : ByteArray), .slice none 0 0]) ?_ 1 _ rfl; (with_reducible repeat (first | refine blk_drewN ?_ _ | refine blk_drew ?_ | refine blk_alloc ?_ _)); refine blk_put (cs := pxAQ144_) ?_ 0 _ rfl; (with_reducible repeat (first | refine blk_drewN ?_ _ | refine blk_drew ?_ | refine blk_alloc ?_ _)); exact BK459.out) hb); have n8_ := Aside0.mk (below_step (by repeat (first | (with_reducible first | exact HB.out | apply below_alloc | apply pw_below_drewN | apply below_drew1 | refine below_set ?_ GE386.out | refine below_set ?_ GE397.out | refine below_set ?_ GE413.out | refine below_set ?_ GE429.out | refine below_set ?_ GE444.out | refine below_set ?_ GE459.out) | exact HB.out)) hb); clear HO442; clear HO457; clear BK386; clear BK397; clear BK413; clear BK429; clear BK444; clear BK459; clear HB; have HO442 := n0_; have HO457 := n1_; have BK386 := n2_; have BK397 := n3_; have BK413 := n4_; have BK429 := n5_; have BK444 := n6_; have BK459 := n7_; have HB := n8_; clear n0_ n1_ n2_ n3_ n4_ n5_ n6_ n7_ n8_; (try clear hb); (try clear hb2); (try clear hk); (try clear hi); pxhQ14_ hcz57_0 w56 gb386 0 (.int .i64 t376) BK386; pxhQ14_ hcz57_1 w56 gb386 1 (.int .i64 t377) BK386; pxhQ14_ hcz57_2 w56 gb386 2 (.int .i64 t378) BK386; pxhQ14_ hcz57_3 w56 gb386 3 (.int .i64 t379) BK386; pxhQ14_ hcz57_4 w56 gb386 4 (.int .i64 t380) BK386; pxhQ14_ hcz57_5 w56 gb386 5 (.string t381) BK386; pxhQ14_ hcz57_6 w56 gb386 6 (.string t382) BK386; pxhQ14_ hcz57_7 w56 gb386 7 (.string t383) BK386; pxfQ14_ hfz57_0 BK386 0; pxfQ14_ hfz57_1 BK386 1; pxfQ14_ hfz57_2 BK386 2; pxfQ14_ hfz57_3 BK386 3; pxfQ14_ hfz57_4 BK386 4; pxfQ14_ hfz57_5 BK386 5; pxfQ14_ hfz57_6 BK386 6; pxfQ14_ hfz57_7 BK386 7; pxhQ14_ hcz58_0 w56 gb397 0 (.int .i64 t387) BK397; pxhQ14_ hcz58_1 w56 gb397 1 (.int .i64 t388) BK397; pxhQ14_ hcz58_2 w56 gb397 2 (.int .i64 t389) BK397; pxhQ14_ hcz58_3 w56 gb397 3 (.int .i64 t390) BK397; pxhQ14_ hcz58_4 w56 gb397 4 (.int .i64 t391) BK397; pxhQ14_ hcz58_5 w56 gb397 5 (.string t392) BK397; pxhQ14_ hcz58_6 w56 gb397 6 (.string t393) BK397; pxhQ14_ hcz58_7 w56 gb397 7 (.string t394) BK397; pxfQ14_ hfz58_0 BK397 0; pxfQ14_ hfz58_1 BK397 1; pxfQ14_ hfz58_2 BK397 2; pxfQ14_ hfz58_3 BK397 3; pxfQ14_ hfz58_4 BK397 4; pxfQ14_ hfz58_5 BK397 5; pxfQ14_ hfz58_6 BK397 6; pxfQ14_ hfz58_7 BK397 7; pxhQ14_ hcz59_0 w56 gb413 0 (.int .i64 t398) BK413; pxhQ14_ hcz59_1 w56 gb413 1 (.int .i64 t399) BK413; pxhQ14_ hcz59_2 w56 gb413 2 (.int .i64 t400) BK413; pxhQ14_ hcz59_3 w56 gb413 3 (.int .i64 t401) BK413; pxhQ14_ hcz59_4 w56 gb413 4 (.int .i64 t402) BK413; pxhQ14_ hcz59_5 w56 gb413 5 (.int .i64 t403) BK413; pxhQ14_ hcz59_6 w56 gb413 6 (.int .i64 t404) BK413; pxhQ14_ hcz59_7 w56 gb413 7 (.int .i64 t405) BK413; pxhQ14_ hcz59_8 w56 gb413 8 (.int .i64 t406) BK413; pxhQ14_ hcz59_9 w56 gb413 9 (.int .i64 t407) BK413; pxhQ14_ hcz59_10 w56 gb413 10 (.int .i64 t408) BK413; pxhQ14_ hcz59_11 w56 gb413 11 (.string t409) BK413; pxhQ14_ hcz59_12 w56 gb413 12 (.string t410) BK413; pxhQ14_ hcz59_13 w56 gb413 13 (.string t411) BK413; pxfQ14_ hfz59_0 BK413 0; pxfQ14_ hfz59_1 BK413 1; pxfQ14_ hfz59_2 BK413 2; pxfQ14_ hfz59_3 BK413 3; pxfQ14_ hfz59_4 BK413 4; pxfQ14_ hfz59_5 BK413 5; pxfQ14_ hfz59_6 BK413 6; pxfQ14_ hfz59_7 BK413 7; pxfQ14_ hfz59_8 BK413 8; pxfQ14_ hfz59_9 BK413 9; pxfQ14_ hfz59_10 BK413 10; pxfQ14_ hfz59_11 BK413 11; pxfQ14_ hfz59_12 BK413 12; pxfQ14_ hfz59_13 BK413 13; pxhQ14_ hcz60_0 w56 gb429 0 (.int .i64 t414) BK429; pxhQ14_ hcz60_1 w56 gb429 1 (.int .i64 t415) BK429; pxhQ14_ hcz60_2 w56 gb429 2 (.int .i64 t416) BK429; pxhQ14_ hcz60_3 w56 gb429 3 (.int .i64 t417) BK429; pxhQ14_ hcz60_4 w56 gb429 4 (.int .i64 t418) BK429; pxhQ14_ hcz60_5 w56 gb429 5 (.int .i64 t419) BK429; pxhQ14_ hcz60_6 w56 gb429 6 (.int .i64 t420) BK429; pxhQ14_ hcz60_7 w56 gb429 7 (.int .i64 t421) BK429; pxhQ14_ hcz60_8 w56 gb429 8 (.int .i64 t422) BK429; pxhQ14_ hcz60_9 w56 gb429 9 (.int .i64 t423) BK429; pxhQ14_ hcz60_10 w56 gb429 10 (.int .i64 t424) BK429; pxhQ14_ hcz60_11 w56 gb429 11 (.string t425) BK429; pxhQ14_ hcz60_12 w56 gb429 12 (.string t426) BK429; pxhQ14_ hcz60_13 w56 gb429 13 (.string t427) BK429; pxfQ14_ hfz60_0 BK429 0; pxfQ14_ hfz60_1 BK429 1; pxfQ14_ hfz60_2 BK429 2; pxfQ14_ hfz60_3 BK429 3; pxfQ14_ hfz60_4 BK429 4; pxfQ14_ hfz60_5 BK429 5; pxfQ14_ hfz60_6 BK429 6; pxfQ14_ hfz60_7 BK429 7; pxfQ14_ hfz60_8 BK429 8; pxfQ14_ hfz60_9 BK429 9; pxfQ14_ hfz60_10 BK429 10; pxfQ14_ hfz60_11 BK429 11; pxfQ14_ hfz60_12 BK429 12; pxfQ14_ hfz60_13 BK429 13))
                  go_ret
                  exact ⟨by first | rfl | (simp [errW_none, errW_some] <;> rfl) | (simp [*, errW_none, errW_some] <;> rfl), by repeat (first | (with_reducible first | exact HB.out | apply below_alloc | apply pw_below_drewN | apply below_drew1 | refine below_set ?_ GE386.out | refine below_set ?_ GE397.out | refine below_set ?_ GE413.out | refine below_set ?_ GE429.out | refine below_set ?_ GE444.out | refine below_set ?_ GE459.out) | exact HB.out)⟩
                · rw [if_neg c18] at H
                  exact absurd H (by simp)
              · rw [if_neg c17] at H
                exact absurd H (by simp)
            · rw [if_neg c16] at H
              exact absurd H (by simp)
          · rw [if_neg c15] at H
            exact absurd H (by simp)
        · rw [if_neg c14] at H
          exact absurd H (by simp)
      · replace c13 := Bool.eq_false_iff.mpr c13
        subst c13
        pxLQ140_
        clear H
        have H := H1
        clear H1
        exact absurd H (by simp)
    · replace c12 := Bool.eq_false_iff.mpr c12
      subst c12
      pxLQ140_
      clear H
      have H := H1
      clear H1
      exact absurd H (by simp)

-- NOT PRINTED: function 7 (copyholdlaw15_WireOne)

end Go.Proofs.Ytgnmhbkialgeaaa.Q
end

section
/- How an argument of any plain type (numbers, bools, texts, slices, structs, nested) is opened: what it reads as, by its kind; its sizes; its bulk. -/
set_option linter.unusedVariables false
set_option linter.unusedSimpArgs false
namespace Go.Proofs.Ytgnmhbkialgeaaa.Opn
open Go.Proofs.YtgnmhbkialgeaaaW.PrintWords

structure Opens {H : Type} (enc : TypeId × Value → H) (P : Program) (w : World) (t : TypeId) {α : Type} (K : Kd α) (G : α → Prop) (b : α → Nat) : Prop where
  sz : P.cellsOf t = K.sz
  open_ : ∀ fuel cs (d : DataW H) ps, DataW.trod enc P w 0 (fun _ => true) true fuel t cs = some (d, ps) → ∃ x, K.K w x cs ∧ ((∀ n ∈ d.weights P t, n ≤ reachBytes) → G x) ∧ b x ≤ Rows.uptoBulk d

section
variable {H : Type} {enc : TypeId × Value → H} {P : Program} {w : World}

theorem opens_string {t : TypeId} (hu : P.underlying t = some .string) (hs : P.cellsOf t = 1) : Opens enc P w t Kd.string (fun x => x.size ≤ reachBytes) (fun x => x.size + 1) := by
  refine ⟨hs, fun fuel cs d ps h => ?_⟩
  obtain ⟨s, rfl, hx, _⟩ := DataW.trod_string hu h
  obtain ⟨rfl, rfl⟩ := Prod.mk.inj hx
  refine ⟨s, rfl, fun hw => ?_, ?_⟩
  · have := hw s.data.toList.length (by simp [DataW.weights])
    rw [Array.length_toList] at this; exact this
  · simp only [Rows.uptoBulk, Array.length_toList]; exact Nat.le_refl _
structure OpensF {H : Type} (enc : TypeId × Value → H) (P : Program) (w : World) (fs : List Field) (off : Nat) {α : Type} (K : Kd α) (G : α → Prop) (b : α → Nat) : Prop where
  open_ : ∀ fuel (cs : List Value) (xs : List (DataW H × List MemPlace)), fs.mapM (fun f => DataW.trod enc P w 0 (fun _ => true) true fuel f.type ((cs.drop f.offset).take (P.cellsOf f.type))) = some xs →
    ∃ x, K.K w x ((cs.drop off).take K.sz) ∧ ((∀ n ∈ DataW.weightsEach P (fs.map (·.type)) (xs.map (·.1)), n ≤ reachBytes) → G x) ∧ b x ≤ Rows.uptoBulkAll (xs.map (·.1))
end
end Go.Proofs.Ytgnmhbkialgeaaa.Opn
end

section
/- Layer 15, plain: what wire.Call, Msg and Rsp lay; that it is taken back; that what is taken was laid; that a beginning isn't taken. -/
set_option linter.unusedVariables false
set_option linter.unusedSimpArgs false
namespace Go.Proofs.Ytgnmhbkialgeaaa
open Math

def InL (l : List Int) : Prop := ∀ n ∈ l, -9223372036854775808 ≤ n ∧ n ≤ 9223372036854775807
theorem inI_of {l : List Int} (h : InL l) : inI l = true := by
  unfold inI
  rw [List.all_eq_true]
  intro n hn
  have := h n hn
  simp [this.1, this.2]
theorem num_back {n : Int} (h : -9223372036854775808 ≤ n ∧ n ≤ 9223372036854775807) (m : List UInt8) : numR (numB (foldN n) ++ m) 0 = (n, m, 0) := by
  rw [numR, if_pos rfl, take_num0 (foldN_lt h)]
  simp only [unfold_fold]
theorem nums_back : ∀ (n : Nat) (l : List Int) (m : List UInt8), l.length = n → InL l → numsR n (numsB l ++ m) 0 = (l, m, 0)
  | 0, l, m, hl, _ => by
    obtain rfl : l = [] := List.length_eq_zero_iff.1 hl
    rfl
  | n + 1, l, m, hl, hi => by
    rcases List.eq_nil_or_concat l with rfl | ⟨l', x, rfl⟩
    · cases hl
    · have hl' : l'.length = n := by simpa using hl
      have hx := hi x (by simp)
      have ih := nums_back n l' (numB (foldN x) ++ m) hl' (fun y hy => hi y (by simp [hy]))
      rw [List.concat_eq_append, numsB_snoc, List.append_assoc, numsR, ih, num_back hx]
theorem numR_err {s : List UInt8} {e : Int} (h : (numR s e).2.2 = 0) : e = 0 := by
  unfold numR at h
  split at h
  · assumption
  · exact h
theorem numR_of {s : List UInt8} {e : Int} (he : e ≠ 0) : numR s e = (0, s, e) := by rw [numR, if_neg he]
theorem num_inv {s : List UInt8} (h : (numR s 0).2.2 = 0) : s = numB (foldN (numR s 0).1) ++ (numR s 0).2.1 ∧ (-9223372036854775808 ≤ (numR s 0).1 ∧ (numR s 0).1 ≤ 9223372036854775807) := by
  rw [numR, if_pos rfl] at h ⊢
  refine ⟨?_, unfoldN_in (takeN0_lt s)⟩
  simp only [fold_unfold]
  exact take_inv0 h
theorem nums_inv : ∀ (n : Nat) (s : List UInt8), (numsR n s 0).2.2 = 0 → s = numsB (numsR n s 0).1 ++ (numsR n s 0).2.1 ∧ InL (numsR n s 0).1
  | 0, s, _ => ⟨rfl, fun n hn => by cases hn⟩
  | n + 1, s, h => by
    have h2 : (numR (numsR n s 0).2.1 (numsR n s 0).2.2).2.2 = 0 := h
    have h1 := numR_err h2
    obtain ⟨i1, i2⟩ := nums_inv n s h1
    rw [h1] at h2
    obtain ⟨j1, j2⟩ := num_inv h2
    refine ⟨?_, ?_⟩
    · show s = numsB ((numsR n s 0).1 ++ [(numR (numsR n s 0).2.1 (numsR n s 0).2.2).1]) ++ (numR (numsR n s 0).2.1 (numsR n s 0).2.2).2.1
      rw [h1, numsB_snoc, List.append_assoc, ← j1]
      exact i1
    · intro x hx
      have hx' : x ∈ (numsR n s 0).1 ++ [(numR (numsR n s 0).2.1 (numsR n s 0).2.2).1] := hx
      rw [h1] at hx'
      rcases List.mem_append.1 hx' with hx' | hx'
      · exact i2 x hx'
      · rw [List.mem_singleton] at hx'
        rw [hx']
        exact j2
theorem textR_err {s : List UInt8} {e : Int} (h : (textR s e).2.2 = 0) : e = 0 := by
  unfold textR at h
  split at h
  · assumption
  · exact h
theorem textR_of {s : List UInt8} {e : Int} (he : e ≠ 0) : textR s e = ([], s, e) := by rw [textR, if_neg he]
theorem textsR_err {s : List UInt8} {e : Int} (h : (textsR s e).2.2 = 0) : e = 0 := by
  unfold textsR at h
  split at h
  · assumption
  · exact h
theorem textsR_of {s : List UInt8} {e : Int} (he : e ≠ 0) : textsR s e = ([], s, e) := by rw [textsR, if_neg he]
theorem text_back (t m : List UInt8) (h : t.length ≤ 4096) : textR (textB t ++ m) 0 = (t, m, 0) := by
  rw [textR, if_pos rfl, text_take t m 4096 (by omega) (by omega)]
theorem textR_inv {s : List UInt8} (h : (textR s 0).2.2 = 0) : s = textB (textR s 0).1 ++ (textR s 0).2.1 ∧ (textR s 0).1.length ≤ 4096 := by
  rw [textR, if_pos rfl] at h ⊢
  have := text_inv h
  exact ⟨this.1, by omega⟩
theorem textsR_inv {s : List UInt8} (h : (textsR s 0).2.2 = 0) : s = listB (textsR s 0).1 ++ (textsR s 0).2.1 := by
  rw [textsR, if_pos rfl] at h ⊢
  exact list_inv h
/-- A call's bytes. -/
def callB (l : List Int) (x y z : List UInt8) : List UInt8 := numsB l ++ (textB x ++ (textB y ++ textB z))
theorem call_back (l : List Int) (x y z m : List UInt8) (hl : l.length = 5) (hi : InL l) (hx : x.length ≤ 4096) (hy : y.length ≤ 4096) (hz : z.length ≤ 4096) :
    callR (callB l x y z ++ m) 0 = ((l, x, y, z), m, 0) := by
  unfold callR callB
  simp only [List.append_assoc, nums_back 5 l _ hl hi, text_back x _ hx, text_back y _ hy, text_back z _ hz]
/-- A message's bytes, ahead of the sum. -/
def msgB (l c : List Int) (x y z : List UInt8) : List UInt8 := numsB l ++ callB c x y z
theorem msg_back (l c : List Int) (x y z m : List UInt8) (hl : l.length = 6) (hc : c.length = 5) (hi : InL l) (hj : InL c) (hx : x.length ≤ 4096) (hy : y.length ≤ 4096) (hz : z.length ≤ 4096) :
    msgR (msgB l c x y z ++ m) 0 = ((l, c, x, y, z), m, 0) := by
  unfold msgR msgB
  simp only [List.append_assoc, nums_back 6 l _ hl hi, call_back c x y z m hc hj hx hy hz]
/-- An answer's bytes, ahead of the sum. -/
def rspB (l : List Int) (x : List UInt8) (t : List (List UInt8)) : List UInt8 := numsB l ++ (textB x ++ listB t)
theorem rspR_inv {s : List UInt8} (h : (rspR s 0).2.2 = 0) :
    s = rspB (rspR s 0).1.1 (rspR s 0).1.2.1 (rspR s 0).1.2.2 ++ (rspR s 0).2.1 ∧ InL (rspR s 0).1.1 := by
  unfold rspR at h ⊢
  simp only at h ⊢
  have h2 := textsR_err h
  have h1 := textR_err h2
  obtain ⟨i1, i2⟩ := nums_inv 9 s h1
  rw [h1] at h h2 ⊢
  have j := (textR_inv h2).1
  rw [h2] at h ⊢
  have j2 := textsR_inv h
  refine ⟨?_, i2⟩
  unfold rspB
  rw [List.append_assoc, List.append_assoc, ← j2, ← j]
  exact i1
/-- The bytes of a message, of an answer. -/
def msgS (l c : List Int) (x y z : List UInt8) : ByteArray := putS ⟨(109 :: msgB l c x y z).toArray⟩
def rspS (l : List Int) (x : List UInt8) (t : List (List UInt8)) : ByteArray := putS ⟨(114 :: rspB l x t).toArray⟩
theorem tm_back (l c : List Int) (x y z : List UInt8) (hl : l.length = 6) (hc : c.length = 5) (hi : InL l) (hj : InL c) (hx : x.length ≤ 4096) (hy : y.length ≤ 4096) (hz : z.length ≤ 4096) :
    tmE (msgS l c x y z) = 0 ∧ tmP (msgS l c x y z) = (l, c, x, y, z) := by
  have hm := msg_back l c x y z [] hl hc hi hj hx hy hz
  rw [List.append_nil] at hm
  have ht := take_put ⟨(109 :: msgB l c x y z).toArray⟩
  have h0 : tmE (msgS l c x y z) = 0 := by
    rw [tmE, msgS, openE_parts (r := msgB l c x y z) ht, hm]
    rfl
  refine ⟨h0, ?_⟩
  rw [tmP, if_pos h0, msgS, ht]
  show (msgR (msgB l c x y z) 0).1 = _
  rw [hm]
/-- What was taken was laid. -/
theorem openE_inv {letter : UInt8} {F : List UInt8 → List UInt8 × Int} {s : ByteArray} (h : openE letter F s = 0) : ∃ r, takeS s = (⟨(letter :: r).toArray⟩, 0) ∧ (F r).2 = 0 ∧ (F r).1 = [] ∧ s = putS ⟨(letter :: r).toArray⟩ := by
  rcases takeS_cases s letter with ⟨t, e0, ht, hc⟩ | ⟨r, ht⟩
  · exact absurd h (openE_stay (F := F) ht hc).1
  · have h' := h
    rw [openE_parts ht] at h'
    refine ⟨r, ht, ?_⟩
    have hp := put_take s (by rw [ht])
    rw [ht] at hp
    split at h'
    · rename_i h1
      split at h'
      · rename_i h2
        exact ⟨h1, h2, hp.symm⟩
      · cases h'
    · rename_i h1
      exact absurd h' h1
theorem tr_inv {s : ByteArray} (h : trE s = 0) : s = rspS (trP s).1 (trP s).2.1 (trP s).2.2 ∧ InL (trP s).1 ∧ (trP s).1.length = 9 := by
  obtain ⟨r, ht, h1, h2, hs⟩ := openE_inv h
  have hp : trP s = (rspR r 0).1 := by rw [trP, if_pos h, ht]; rfl
  obtain ⟨i1, i2⟩ := rspR_inv h1
  rw [hp]
  rw [h2, List.append_nil] at i1
  refine ⟨?_, i2, numsR_len 9 _ _⟩
  rw [rspS, ← i1]
  exact hs
end Go.Proofs.Ytgnmhbkialgeaaa
end

section
/- Layer 15: what the printed Call, Msg, Rsp and the head of all laws come to, in closed form. -/
set_option linter.unusedVariables false
set_option linter.unusedSimpArgs false
namespace Go.Proofs.Ytgnmhbkialgeaaa
open Go.RowKit Go.Proofs.Ytgnmhbkialgeaaa.Q Go.Proofs.YtgnmhbkialgeaaaW.PrintWords Go.Proofs.YtgnmhbkialgeaaaW.PrintLast Go.Proofs.YtgnmhbkialgeaaaW.PrintMore Math

theorem nums_eq {l : List Int} (hl : l.length ≤ 1000000) (hi : InL l) : wire_nums.f l = some (numsS l) := by unfold wire_nums.f; rw [if_pos ⟨hl, inI_of hi⟩]
theorem oct_text {s : ByteArray} (h : s.size ≤ 140737488355000) : octet_Text.f s = some (textS s) := by unfold octet_Text.f; rw [if_pos h]
theorem put_eq {s : ByteArray} (h : s.size ≤ 9223372036854775803) : seal_Put.f s = some (putS s) := by unfold seal_Put.f; rw [if_pos h]
theorem textS_sz {s : ByteArray} (h : s.size ≤ 100000000000) : (textS s).size ≤ s.size + 10 := by
  rw [sz, textS_dl, textB, List.length_append]
  have := numB_len (n := s.data.toList.length) (by rw [← sz]; omega)
  rw [← sz] at *
  omega
theorem numsS_sz {l : List Int} (hi : InL l) : (numsS l).size ≤ 10 * l.length := by rw [sz]; exact numsB_len l hi
theorem in5 {a b c d e : Int} (ha : -9223372036854775808 ≤ a ∧ a ≤ 9223372036854775807) (hb : -9223372036854775808 ≤ b ∧ b ≤ 9223372036854775807) (hc : -9223372036854775808 ≤ c ∧ c ≤ 9223372036854775807) (hd : -9223372036854775808 ≤ d ∧ d ≤ 9223372036854775807) (he : -9223372036854775808 ≤ e ∧ e ≤ 9223372036854775807) : InL [a, b, c, d, e] := by
  intro n hn
  simp only [List.mem_cons, List.not_mem_nil, or_false] at hn
  rcases hn with rfl | rfl | rfl | rfl | rfl <;> assumption
theorem in6 {a b c d e f : Int} (ha : -9223372036854775808 ≤ a ∧ a ≤ 9223372036854775807) (hb : -9223372036854775808 ≤ b ∧ b ≤ 9223372036854775807) (hc : -9223372036854775808 ≤ c ∧ c ≤ 9223372036854775807) (hd : -9223372036854775808 ≤ d ∧ d ≤ 9223372036854775807) (he : -9223372036854775808 ≤ e ∧ e ≤ 9223372036854775807) (hf : -9223372036854775808 ≤ f ∧ f ≤ 9223372036854775807) : InL [a, b, c, d, e, f] := by
  intro n hn
  simp only [List.mem_cons, List.not_mem_nil, or_false] at hn
  rcases hn with rfl | rfl | rfl | rfl | rfl | rfl <;> assumption
theorem call_eq {a b c d e : Int} {x y z : ByteArray} (hi : InL [a, b, c, d, e]) (hx : x.size ≤ 100000000000) (hy : y.size ≤ 100000000000) (hz : z.size ≤ 100000000000) :
    wire_Call.f a b c d e x y z = some ⟨(callB [a, b, c, d, e] x.data.toList y.data.toList z.data.toList).toArray⟩ := by
  have h0 := numsS_sz hi
  have h1 := textS_sz hx
  have h2 := textS_sz hy
  have h3 := textS_sz hz
  simp only [List.length_cons, List.length_nil] at h0
  unfold wire_Call.f
  rw [bs (nums_eq (by simp) hi), bs (oct_text (by omega)), if_pos (by omega), bs (oct_text (by omega)), if_pos (by rw [app_size]; omega), bs (oct_text (by omega)), if_pos (by rw [app_size, app_size]; omega)]
  refine congrArg some (inj ?_)
  rw [app, app, app, textS_dl, textS_dl, textS_dl, List.append_assoc, List.append_assoc]
  rfl
theorem callB_len {l : List Int} {x y z : List UInt8} (hi : InL l) (hx : x.length ≤ 100000000000) (hy : y.length ≤ 100000000000) (hz : z.length ≤ 100000000000) : (callB l x y z).length ≤ 10 * l.length + (x.length + y.length + z.length) + 30 := by
  have h0 := numsB_len l hi
  have h1 := numB_len (n := x.length) (by omega)
  have h2 := numB_len (n := y.length) (by omega)
  have h3 := numB_len (n := z.length) (by omega)
  simp only [callB, textB, List.length_append]
  omega
theorem arr_sz (l : List UInt8) : (⟨l.toArray⟩ : ByteArray).size = l.length := rfl
theorem msg_eq {a b c d e f g h i j k : Int} {x y z : ByteArray} (hi : InL [a, b, c, d, e, f]) (hj : InL [g, h, i, j, k]) (hx : x.size ≤ 100000000000) (hy : y.size ≤ 100000000000) (hz : z.size ≤ 100000000000) :
    wire_Msg.f a b c d e f g h i j k x y z = some (msgS [a, b, c, d, e, f] [g, h, i, j, k] x.data.toList y.data.toList z.data.toList) := by
  have h0 := numsS_sz hi
  have h1 := callB_len (x := x.data.toList) (y := y.data.toList) (z := z.data.toList) hj (by rw [← sz]; exact hx) (by rw [← sz]; exact hy) (by rw [← sz]; exact hz)
  rw [← sz, ← sz, ← sz] at h1
  have h2 : (⟨#[109]⟩ : ByteArray).size = 1 := rfl
  simp only [List.length_cons, List.length_nil] at h0 h1
  rw [← arr_sz] at h1
  unfold wire_Msg.f
  rw [bs (nums_eq (by simp) hi), if_pos (by omega), bs (call_eq hj hx hy hz), if_pos (by rw [app_size]; omega), bs (put_eq (by rw [app_size, app_size]; omega))]
  refine congrArg (fun s => some (putS s)) (inj ?_)
  rw [app, app]
  rfl
theorem z6 : InL [2, 3, 0, 0, 0, 0] := in6 (by omega) (by omega) (by omega) (by omega) (by omega) (by omega)
theorem z5 : InL [0, 0, 0, 0, 0] := in5 (by omega) (by omega) (by omega) (by omega) (by omega)
theorem e0 : (⟨#[]⟩ : ByteArray).size ≤ 100000000000 := by decide
theorem putS_le (s : ByteArray) (h : s.size ≤ 7000000000000) : (putS s).size ≤ 8000000000000 := by rw [putS_size]; omega
theorem msgS_sz {l c : List Int} {x y z : List UInt8} (hl : l.length = 6) (hc : c.length = 5) (hi : InL l) (hj : InL c) (hx : x.length ≤ 100000000000) (hy : y.length ≤ 100000000000) (hz : z.length ≤ 100000000000) : (msgS l c x y z).size ≤ 8000000000000 := by
  have h0 := numsB_len l hi
  have h1 := callB_len (x := x) (y := y) (z := z) hj hx hy hz
  refine putS_le _ ?_
  rw [arr_sz, List.length_cons, msgB, List.length_append]
  omega
theorem shown_eq : copyholdlaw15_shown.f = some true := by
  unfold copyholdlaw15_shown.f
  obtain ⟨t1, t2⟩ := tm_back [2, 3, 0, 0, 0, 0] [0, 0, 0, 0, 0] [] [] [] rfl rfl z6 z5 (by decide) (by decide) (by decide)
  rw [bs (msg_eq z6 z5 e0 e0 e0)]
  have hT : wire_TakeMsg.f (msgS [2, 3, 0, 0, 0, 0] [0, 0, 0, 0, 0] (⟨#[]⟩ : ByteArray).data.toList (⟨#[]⟩ : ByteArray).data.toList (⟨#[]⟩ : ByteArray).data.toList) = some (tmT (msgS [2, 3, 0, 0, 0, 0] [0, 0, 0, 0, 0] (⟨#[]⟩ : ByteArray).data.toList (⟨#[]⟩ : ByteArray).data.toList (⟨#[]⟩ : ByteArray).data.toList)) := by
    unfold wire_TakeMsg.f
    rw [if_pos (msgS_sz rfl rfl z6 z5 (by simp) (by simp) (by simp))]
  rw [bs hT, bs (call_eq z5 e0 e0 e0)]
  have t1' : tmE (msgS [2, 3, 0, 0, 0, 0] [0, 0, 0, 0, 0] (⟨#[]⟩ : ByteArray).data.toList (⟨#[]⟩ : ByteArray).data.toList (⟨#[]⟩ : ByteArray).data.toList) = 0 := t1
  have t2' : tmP (msgS [2, 3, 0, 0, 0, 0] [0, 0, 0, 0, 0] (⟨#[]⟩ : ByteArray).data.toList (⟨#[]⟩ : ByteArray).data.toList (⟨#[]⟩ : ByteArray).data.toList) = _ := t2
  have hc : (callB [0, 0, 0, 0, 0] [] [] []) = [0, 0, 0, 0, 0, 0, 0, 0] := by
    simp [callB, numsB, textB, foldN, numB_lo]
  rw [tl]
  rw [if_pos (show (⟨(callB [0, 0, 0, 0, 0] [] [] []).toArray⟩ : ByteArray).data.toList = _ from hc)]
  unfold tmT
  rw [t1', t2']
  rfl
end Go.Proofs.Ytgnmhbkialgeaaa
end

section
/- Layer 15: what TakeCall, TakeMsg and TakeRsp answer to what was laid; and that an answer is the same as itself. -/
set_option linter.unusedVariables false
set_option linter.unusedSimpArgs false
namespace Go.Proofs.Ytgnmhbkialgeaaa
open Go.RowKit Go.Proofs.Ytgnmhbkialgeaaa.Q Go.Proofs.YtgnmhbkialgeaaaW.PrintWords Go.Proofs.YtgnmhbkialgeaaaW.PrintLast Go.Proofs.YtgnmhbkialgeaaaW.PrintMore Math

theorem ba_eta (x : ByteArray) : (⟨x.data.toList.toArray⟩ : ByteArray) = x := inj rfl
theorem takeCall_eq {s : ByteArray} (h : s.size ≤ 8000000000000) : wire_TakeCall.f s = some (tcT s) := by unfold wire_TakeCall.f; rw [if_pos h]
theorem takeMsg_eq {s : ByteArray} (h : s.size ≤ 8000000000000) : wire_TakeMsg.f s = some (tmT s) := by unfold wire_TakeMsg.f; rw [if_pos h]
theorem takeRsp_eq {s : ByteArray} (h : s.size ≤ 8000000000000) : wire_TakeRsp.f s = some (trT s) := by unfold wire_TakeRsp.f; rw [if_pos h]
end Go.Proofs.Ytgnmhbkialgeaaa
end

section
/- The reference's functions of layer 1, in closed form (at the seats of the layers above). -/
set_option linter.unusedVariables false
set_option linter.unusedSimpArgs false
namespace Go.Proofs.Ytgnmhbkialgeaaa
open Go.RowKit Go.Proofs.Ytgnmhbkialgeaaa.Q Go.Proofs.YtgnmhbkialgeaaaW.PrintWords Go.Proofs.YtgnmhbkialgeaaaW.PrintLast Go.Proofs.YtgnmhbkialgeaaaW.PrintMore Math

theorem ref_unfold {m : Nat} (h : m < 18446744073709551616) : copyholdref01_Unfold.f (m : Int) = some (unfoldN m) := by
  unfold copyholdref01_Unfold.f unfoldN
  rw [Int.tmod_eq_emod_of_nonneg (by omega), Int.tdiv_eq_ediv_of_nonneg (by omega), IntKind.wrap_u64]
  by_cases h0 : m % 2 = 0
  · rw [if_pos (by omega), if_pos h0, w64 (by omega) (by omega)]; congr 1; omega
  · rw [if_neg (by omega), if_neg h0, w64 (n := (m : Int) / 2 % 18446744073709551616) (by omega) (by omega), w64 (n := -((m : Int) / 2 % 18446744073709551616)) (by omega) (by omega), w64 (by omega) (by omega)]; congr 1; omega

/-- The reference's short number, with rounds enough. -/
theorem ref_num (k : Nat) : ∀ n : Nat, n < 128 ^ (k + 1) → n < 18446744073709551616 → copyholdref01_Num.f (k + 1) (n : Int) = some (numS n) := by
  induction k with
  | zero =>
    intro n h h2
    simp only [copyholdref01_Num.f]
    rw [if_pos (by omega)]
    refine congrArg some ?_
    apply inj
    rw [numS_dl, numB_lo (by omega), nums_dl]
    rw [List.map_cons, List.map_nil, show ((n : Int) % 256).toNat = n from by omega]
  | succ k ih =>
    intro n h h2
    have hu : copyholdref01_Num.f (k + 1 + 1) (n : Int) = if (n : Int) < 128 then (some (strOfNums (([((n : Int)) % 256] : List Int)))) else ((some (([(IntKind.u64.wrap ((Int.tmod (n : Int) 128) + 128)) % 256] : List Int) : List Int)).bind fun y113 => ((copyholdref01_Num.f (k + 1) (IntKind.u64.wrap (Int.tdiv (n : Int) 128))).bind fun t116 => (if (strOfNums y113).size + t116.size ≤ 9223372036854775807 then (some ((strOfNums y113) ++ t116)) else (none)))) := rfl
    rw [hu]
    by_cases h1 : n < 128
    · rw [if_pos (by omega)]
      refine congrArg some ?_
      apply inj
      rw [numS_dl, numB_lo (by omega), nums_dl]
      rw [List.map_cons, List.map_nil, show ((n : Int) % 256).toNat = n from by omega]
    · have hr := ih (n / 128) (by rw [Nat.div_lt_iff_lt_mul (by decide)]; rw [Nat.pow_succ] at h; exact h) (by omega)
      have hsz := numS_size10 (n := n / 128) (by omega)
      rw [if_neg (by omega), bs rfl, Int.tdiv_eq_ediv_of_nonneg (by omega), Int.tmod_eq_emod_of_nonneg (by omega), IntKind.wrap_u64, IntKind.wrap_u64, show ((n : Int) / 128 % 18446744073709551616) = ((n / 128 : Nat) : Int) from by omega, bs hr, if_pos (by rw [nums_size, List.length_cons, List.length_nil]; omega)]
      refine congrArg some ?_
      apply inj
      rw [app, nums_dl, numS_dl, numS_dl, numB_hi (n := n) (by omega)]
      rw [List.map_cons, List.map_nil, List.cons_append, List.nil_append, show (((n : Int) % 128 + 128) % 18446744073709551616 % 256).toNat = n % 128 + 128 from by omega]
theorem ref_num10 {n k : Nat} (h : n < 18446744073709551616) (hk : 10 ≤ k) : copyholdref01_Num.f k (n : Int) = some (numS n) := by
  obtain ⟨j, rfl⟩ : ∃ j, k = j + 1 := ⟨k - 1, by omega⟩
  refine ref_num j n ?_ h
  have : 128 ^ 10 ≤ 128 ^ (j + 1) := Nat.pow_le_pow_right (by decide) (by omega)
  omega
end Go.Proofs.Ytgnmhbkialgeaaa
end

section
/- The reference's ways to take numbers, texts and lists come to the same closed forms. -/
set_option linter.unusedVariables false
set_option linter.unusedSimpArgs false
namespace Go.Proofs.Ytgnmhbkialgeaaa
open Go.RowKit Go.Proofs.Ytgnmhbkialgeaaa.Q Go.Proofs.YtgnmhbkialgeaaaW.PrintWords Go.Proofs.YtgnmhbkialgeaaaW.PrintLast Go.Proofs.YtgnmhbkialgeaaaW.PrintMore Math

def hor (c : UInt8) (n : Nat) : Nat := (128 * n + c.toNat % 128) % 18446744073709551616
theorem hor_lt (l : List UInt8) {n : Nat} (h : n < 18446744073709551616) : l.foldr hor n < 18446744073709551616 := by
  cases l with
  | nil => exact h
  | cons c r => show hor _ _ < _; unfold hor; omega
theorem hor_num (n : Nat) (h : n < 18446744073709551616) : (numB n).foldr hor 0 = n := by
  induction n using Nat.strongRecOn with
  | _ n ih =>
    by_cases h1 : 128 ≤ n
    · rw [numB_hi h1, List.foldr_cons, ih (n / 128) (by omega) (by omega)]
      unfold hor
      rw [ofNat_toNat (by omega)]; omega
    · rw [numB_lo h1, List.foldr_cons, List.foldr_nil]
      unfold hor
      rw [ofNat_toNat (by omega)]; omega
theorem tn_l1_end (s : ByteArray) (hs : s.size ≤ 9223372036854775807) (i n k : Nat) (hi : i < s.size) (hn : n < 18446744073709551616) (hk : 10 ≤ k) :
    copyholdref01_TakeNum.l1 (k + 1) s (i : Int) (n : Int) (-1) = some (if numB n = s.data.toList.take (i + 1) then ((n : Int), (⟨(s.data.toList.drop (i + 1)).toArray⟩ : ByteArray), 0) else (0, ⟨#[]⟩, 3)) := by
  rw [copyholdref01_TakeNum.l1, if_neg (by omega), bs (ref_num10 hn hk), w64 (n := (i : Int) + 1) (by omega) (by omega), if_pos (by omega), if_pos (by omega), show ((i : Int) + 1).toNat = i + 1 from by omega, tl, tl, numS_dl, ext_, List.drop_zero, drop_bytes]
  split <;> rfl
theorem tn_l1 (s : ByteArray) (hs : s.size ≤ 9223372036854775807) (i : Nat) (hi : i < s.size) (j : Nat) : ∀ (n k : Nat), j < s.size → n < 18446744073709551616 →
    copyholdref01_TakeNum.l1 (k + (j + 1)) s (i : Int) (n : Int) (j : Int) = copyholdref01_TakeNum.l1 k s (i : Int) (((s.data.toList.take (j + 1)).foldr hor n : Nat) : Int) (-1) := by
  induction j with
  | zero =>
    intro n k hj hn
    have hl : 0 < s.data.toList.length := by rw [← sz]; omega
    have hb := bt_at_ s 0 hl
    rw [show ((0 : Nat) : Int) = 0 from rfl] at hb
    rw [show k + (0 + 1) = k + 1 from rfl, copyholdref01_TakeNum.l1, if_pos (by omega), if_pos (by omega), if_pos (by omega), show ((0 : Nat) : Int) = 0 from rfl, hb, w64 (n := (0 : Int) - 1) (by omega) (by omega), Int.tmod_eq_emod_of_nonneg (by omega)]
    rw [List.take_succ_eq_append_getElem hl, List.take_zero, List.nil_append, List.foldr_cons, List.foldr_nil]
    unfold hor
    simp only [IntKind.wrap_u64]
    congr 1; omega
  | succ j ih =>
    intro n k hj hn
    have hl : j + 1 < s.data.toList.length := by rw [← sz]; omega
    rw [show k + (j + 1 + 1) = (k + (j + 1)) + 1 from by omega]
    generalize hK : k + (j + 1) = K
    rw [copyholdref01_TakeNum.l1, if_pos (by omega), if_pos (by omega), if_pos (by omega), bt_at_ s (j + 1) hl, w64 (n := ((j + 1 : Nat) : Int) - 1) (by omega) (by omega), Int.tmod_eq_emod_of_nonneg (by omega)]
    rw [List.take_succ_eq_append_getElem hl, List.foldr_append, List.foldr_cons, List.foldr_nil]
    have e : (IntKind.u64.wrap ((IntKind.u64.wrap (128 * (n : Int))) + (IntKind.u64.wrap ((s.data.toList[j + 1].toNat : Int) % 128)))) = ((hor s.data.toList[j + 1] n : Nat) : Int) := by
      unfold hor
      simp only [IntKind.wrap_u64]; omega
    rw [e, show (((j + 1 : Nat) : Int) - 1) = (j : Int) from by omega, ← hK]
    exact ih _ k (by omega) (by unfold hor; omega)
theorem tn_l0 (s : ByteArray) (hs : s.size ≤ 9223372036854775807) (d : Nat) : ∀ (i k acc : Nat), i + d = 9 → i ≤ s.size → takeN 0 0 s.data.toList = takeN i acc (s.data.toList.drop i) →
    copyholdref01_TakeNum.l0 (k + 2 * d + 24) s (i : Int) = some (takeNumS s) := by
  have key : ∀ (i k acc : Nat), i ≤ 9 → i ≤ s.size → takeN 0 0 s.data.toList = takeN i acc (s.data.toList.drop i) →
      (∀ h : i < s.data.toList.length, (s.data.toList[i]).toNat < 128) → copyholdref01_TakeNum.j1 (k + 22) s (i : Int) false = some (takeNumS s) := by
    intro i k acc hi9 hi ht hc
    rw [show k + 22 = (k + 21) + 1 from rfl, copyholdref01_TakeNum.j1, if_neg (by decide)]
    by_cases hlt : i < s.size
    · have hl : i < s.data.toList.length := by rw [← sz]; exact hlt
      have hc := hc hl
      have h1 := tn_l1 s hs i hlt i 0 (k + 20 - i) hlt (by decide)
      have h2 := tn_l1_end s hs i ((s.data.toList.take (i + 1)).foldr hor 0) (k + 19 - i) hlt (hor_lt _ (by decide)) (by omega)
      rw [show k + 19 - i + 1 = k + 20 - i from by omega] at h2
      rw [show k + 20 - i + (i + 1) = k + 21 from by omega, show ((0 : Nat) : Int) = 0 from rfl] at h1
      rw [if_neg (by omega), h1, h2]
      unfold takeNumS
      rw [ht, List.drop_eq_getElem_cons hl]
      rw [List.drop_eq_getElem_cons hl] at ht
      by_cases hb : (1 ≤ i ∧ (s.data.toList[i]).toNat = 0) ∨ (i = 9 ∧ 1 < (s.data.toList[i]).toNat)
      · rw [tk_bad hi9 hc hb] at ht ⊢
        rw [if_neg]
        · rfl
        · intro he
          have h3 := take_num0 (hor_lt (s.data.toList.take (i + 1)) (by decide : (0 : Nat) < 18446744073709551616)) (s.data.toList.drop (i + 1))
          rw [he, List.take_append_drop, ht] at h3
          have h5 : (3 : Int) = 0 := congrArg (·.2.2) h3
          exact absurd h5 (by decide)
      · rw [tk_ok hi9 hc hb] at ht ⊢
        have hinv := take_inv0 (l := s.data.toList) (by rw [ht])
        have hv := takeN0_lt s.data.toList
        rw [ht] at hinv hv
        dsimp only at hinv hv
        generalize acc + (s.data.toList[i]).toNat * 2 ^ (7 * i) = v at hinv hv ⊢
        have e : s.data.toList.take (i + 1) = numB v := by
          have h4 : numB v ++ s.data.toList.drop (i + 1) = s.data.toList.take (i + 1) ++ s.data.toList.drop (i + 1) := by rw [List.take_append_drop]; exact hinv.symm
          exact (List.append_cancel_right h4).symm
        rw [e, hor_num v hv, if_pos rfl]
        rfl
    · obtain rfl : i = s.size := by omega
      rw [if_pos rfl]
      unfold takeNumS
      rw [ht, List.drop_eq_nil_of_le (by rw [← sz]; exact Nat.le_refl _), takeN, if_neg (by omega)]
      rfl
  induction d with
  | zero =>
    intro i k acc hi hsz ht
    obtain rfl : i = 9 := by omega
    rw [show k + 2 * 0 + 24 = (k + 22 + 1) + 1 from by omega, copyholdref01_TakeNum.l0]
    by_cases hlt : 9 < s.size
    · have hl : 9 < s.data.toList.length := by rw [← sz]; exact hlt
      have hb := bt_at_ s 9 hl
      rw [show ((9 : Nat) : Int) = 9 from rfl] at hb ⊢
      rw [if_pos (by omega), if_pos (by omega), hb]
      by_cases hc : (s.data.toList[9]).toNat < 128
      · rw [show decide (((s.data.toList[9]).toNat : Int) ≥ 128) = false from decide_eq_false (by omega)]
        exact key 9 (k + 1) acc (by omega) hsz ht (fun _ => hc)
      · rw [show decide (((s.data.toList[9]).toNat : Int) ≥ 128) = true from decide_eq_true (by omega), copyholdref01_TakeNum.j1, if_pos rfl, w64 (by decide) (by decide), if_pos (by decide)]
        unfold takeNumS
        rw [ht, List.drop_eq_getElem_cons hl, tk_go (by omega) hc]
        cases hd : s.data.toList.drop (9 + 1) with
        | nil => rfl
        | cons c r => rfl
    · rw [if_neg (by omega)]
      exact key 9 (k + 1) acc (by omega) hsz ht (fun h => absurd h (by rw [← sz]; omega))
  | succ d ih =>
    intro i k acc hi hsz ht
    rw [show k + 2 * (d + 1) + 24 = (k + 2 * d + 24 + 1) + 1 from by omega, copyholdref01_TakeNum.l0]
    by_cases hlt : i < s.size
    · have hl : i < s.data.toList.length := by rw [← sz]; exact hlt
      rw [if_pos (by omega), if_pos (by omega), bt_at_ s i hl]
      by_cases hc : (s.data.toList[i]).toNat < 128
      · rw [show decide (((s.data.toList[i]).toNat : Int) ≥ 128) = false from decide_eq_false (by omega)]
        exact key i (k + 2 * d + 3) acc (by omega) hsz ht (fun _ => hc)
      · rw [show decide (((s.data.toList[i]).toNat : Int) ≥ 128) = true from decide_eq_true (by omega), copyholdref01_TakeNum.j1, if_pos rfl, w64 (n := (i : Int) + 1) (by omega) (by omega), if_neg (by omega)]
        rw [List.drop_eq_getElem_cons hl, tk_go (by omega) hc] at ht
        exact ih (i + 1) k _ (by omega) (by omega) ht
    · rw [if_neg (by omega)]
      exact key i (k + 2 * d + 3) acc (by omega) hsz ht (fun h => absurd h (by rw [← sz]; omega))
theorem ref_takeNum {s : ByteArray} (hs : s.size ≤ 9223372036854775807) {k : Nat} (hk : 42 ≤ k) : copyholdref01_TakeNum.f k s = some (takeNumS s) := by
  obtain ⟨j, rfl⟩ : ∃ j, k = j + 2 * 9 + 24 := ⟨k - 42, by omega⟩
  exact tn_l0 s hs 9 0 j 0 rfl (Nat.zero_le _) rfl
theorem ref_takeText {s : ByteArray} (hs : s.size ≤ 9223372036854775807) {m : Int} (hm : -9223372036854775808 ≤ m ∧ m ≤ 9223372036854775807) {k : Nat} (hk : 42 ≤ k) :
    copyholdref01_TakeText.f k s m = some (outT (textL s.data.toList m)) := by
  obtain ⟨q, rfl⟩ : ∃ q, k = q + 1 := ⟨k - 1, by omega⟩
  unfold copyholdref01_TakeText.f
  rw [bs (ref_takeNum hs hk)]
  have hlt := takeN0_lt s.data.toList
  have hl := (takeN_len s.data.toList 0 0).1
  rw [← sz] at hl
  unfold takeNumS textL
  generalize takeN 0 0 s.data.toList = p at *
  obtain ⟨n, r, e⟩ := p
  replace hlt : n < 18446744073709551616 := hlt
  replace hl : r.length ≤ s.size := hl
  by_cases he : e = 0
  · rw [if_pos (show (outN (n, r, e)).2.2 = 0 from he), if_pos (show (n, r, e).2.2 = 0 from he)]
    dsimp only [outN]
    have j0 : ∀ b : Bool, copyholdref01_TakeText.j0 (q + 1) (n : Int) ⟨r.toArray⟩ b = if b = true then some (⟨#[]⟩, ⟨#[]⟩, 5) else if r.length < n then some (⟨#[]⟩, ⟨#[]⟩, 2) else some (⟨(r.take n).toArray⟩, ⟨(r.drop n).toArray⟩, 0) := by
      intro b
      rw [copyholdref01_TakeText.j0]
      by_cases hb : b = true
      · rw [if_pos hb, if_pos hb]
      · rw [if_neg hb, if_neg hb, mk_size, IntKind.wrap_u64]
        by_cases h2 : r.length < n
        · rw [if_pos (by omega), if_pos h2]
        · rw [if_neg (by omega), if_neg h2, if_pos (by omega), if_pos (by omega), Int.toNat_natCast]
          congr 2
          · apply inj; rw [ext_, List.drop_zero]
          · congr 1; apply inj; rw [ext_, List.take_of_length_le (Nat.le_refl _)]
    by_cases h1 : m < 0
    · rw [if_pos h1, j0, if_pos rfl, if_pos (.inl h1)]; rfl
    · rw [if_neg h1, j0]
      by_cases h2 : m < (n : Int)
      · rw [if_pos (by simp [IntKind.wrap_u64]; omega), if_pos (.inr h2)]; rfl
      · rw [if_neg (by simp [IntKind.wrap_u64]; omega), if_neg (show ¬(m < 0 ∨ m < (n : Int)) by omega)]
        by_cases h3 : r.length < n
        · rw [if_pos h3, if_pos h3]; rfl
        · rw [if_neg h3, if_neg h3]; rfl
  · rw [if_neg (show ¬ (outN (n, r, e)).2.2 = 0 from he), if_neg (show ¬ (n, r, e).2.2 = 0 from he)]; rfl
theorem ref_loop (long : Int) (hl : -9223372036854775808 ≤ long ∧ long ≤ 9223372036854775807) (n : Nat) (hn : n < 18446744073709551616) (d : Nat) : ∀ (i k : Nat) (r : List UInt8) (acc : List (List UInt8)), i + d = n → r.length ≤ 8000000000000 → acc.length + r.length ≤ 8000000000000 → 42 + r.length + 2 ≤ k →
    copyholdref01_TakeList.l0 k long (n : Int) ⟨r.toArray⟩ (mks acc) (i : Int) = some (outLs (loopL d r acc long)) := by
  induction d with
  | zero =>
    intro i k r acc hi hr ha hk
    obtain ⟨k, rfl⟩ : ∃ m, k = m + 1 := ⟨k - 1, by omega⟩
    rw [copyholdref01_TakeList.l0, if_neg (by omega)]
    rfl
  | succ d ih =>
    intro i k r acc hi hr ha hk
    obtain ⟨k, rfl⟩ : ∃ m, k = m + 1 := ⟨k - 1, by omega⟩
    have ht := ref_takeText (s := ⟨r.toArray⟩) (by rw [mk_size]; omega) hl (k := k) (by omega)
    rw [copyholdref01_TakeList.l0, if_pos (by omega), bs ht, loopL]
    show (if (outT (textL r long)).2.2 = 0 then _ else _) = _
    by_cases h0 : (textL r long).2.2 = 0
    · have hlen := textL_len r long h0
      rw [if_pos (show (outT (textL r long)).2.2 = 0 from h0), if_pos h0, if_pos (by simp only [mks, List.length_map]; omega), IntKind.wrap_u64, show ((i : Int) + 1) % 18446744073709551616 = ((i + 1 : Nat) : Int) from by omega]
      have e : mks acc ++ [(outT (textL r long)).1] = mks (acc ++ [(textL r long).1]) := by simp [mks, outT]
      show copyholdref01_TakeList.l0 k long (n : Int) (outT (textL r long)).2.1 (mks acc ++ [(outT (textL r long)).1]) ((i + 1 : Nat) : Int) = _
      rw [e]
      exact ih (i + 1) k _ _ (by omega) (by omega) (by rw [List.length_append, List.length_cons, List.length_nil]; omega) (by omega)
    · rw [if_neg (show ¬ (outT (textL r long)).2.2 = 0 from h0), if_neg h0]
      rfl
theorem ref_takeList {s : ByteArray} (hs : s.size ≤ 8000000000000) {m long : Int} (hm : -9223372036854775808 ≤ m ∧ m ≤ 9223372036854775807) (hl : -9223372036854775808 ≤ long ∧ long ≤ 9223372036854775807) {k : Nat} (hk : 50 + s.size ≤ k) :
    copyholdref01_TakeList.f k s m long = some (outLs (listL s.data.toList m long)) := by
  obtain ⟨q, rfl⟩ : ∃ q, k = q + 1 := ⟨k - 1, by omega⟩
  unfold copyholdref01_TakeList.f
  rw [bs (ref_takeNum (by omega) (by omega))]
  have hlt := takeN0_lt s.data.toList
  have hle := (takeN_len s.data.toList 0 0).1
  rw [← sz] at hle
  unfold takeNumS listL
  generalize takeN 0 0 s.data.toList = p at *
  obtain ⟨n, r, e⟩ := p
  replace hlt : n < 18446744073709551616 := hlt
  replace hle : r.length ≤ s.size := hle
  by_cases he : e = 0
  · rw [if_pos (show (outN (n, r, e)).2.2 = 0 from he), if_pos (show (n, r, e).2.2 = 0 from he)]
    dsimp only [outN]
    have j0 : ∀ b : Bool, copyholdref01_TakeList.j0 (q + 1) long (n : Int) ⟨r.toArray⟩ b = if b = true then some ([], ⟨#[]⟩, 5) else some (outLs (loopL n r [] long)) := by
      intro b
      rw [copyholdref01_TakeList.j0]
      by_cases hb : b = true
      · rw [if_pos hb, if_pos hb]
      · rw [if_neg hb, if_neg hb]
        exact ref_loop long hl n hlt n 0 q r [] (by omega) (by omega) (by simp; omega) (by omega)
    by_cases h1 : m < 0
    · rw [if_pos h1, j0, if_pos rfl, if_pos (.inl h1)]; rfl
    · rw [if_neg h1, j0]
      by_cases h2 : m < (n : Int)
      · rw [if_pos (by simp [IntKind.wrap_u64]; omega), if_pos (.inr h2)]; rfl
      · rw [if_neg (by simp [IntKind.wrap_u64]; omega), if_neg (show ¬(m < 0 ∨ m < (n : Int)) by omega)]
  · rw [if_neg (show ¬ (outN (n, r, e)).2.2 = 0 from he), if_neg (show ¬ (n, r, e).2.2 = 0 from he)]; rfl
theorem ref_strings_same (l : List ByteArray) (hl : l.length ≤ 9223372036854775806) (d : Nat) : ∀ (i k : Nat), i + d = l.length → d < k → copyholdref01_Strings.l0 k l l (i : Int) = some true := by
  induction d with
  | zero => intro i k hi hk; obtain ⟨k, rfl⟩ : ∃ m, k = m + 1 := ⟨k - 1, by omega⟩; rw [copyholdref01_Strings.l0, if_neg (by omega)]
  | succ d ih =>
    intro i k hi hk
    obtain ⟨k, rfl⟩ : ∃ m, k = m + 1 := ⟨k - 1, by omega⟩
    rw [copyholdref01_Strings.l0, if_pos (by omega), if_pos (by omega), if_pos (by omega), if_pos rfl, w64 (n := (i : Int) + 1) (by omega) (by omega)]
    exact ih (i + 1) k (by omega) (by omega)
theorem ref_strings {l : List ByteArray} (hl : l.length ≤ 9223372036854775806) {k : Nat} (hk : l.length < k) : copyholdref01_Strings.f k l l = some true := by
  unfold copyholdref01_Strings.f
  rw [if_pos rfl]
  exact ref_strings_same l hl l.length 0 k (by omega) hk
end Go.Proofs.Ytgnmhbkialgeaaa
end
