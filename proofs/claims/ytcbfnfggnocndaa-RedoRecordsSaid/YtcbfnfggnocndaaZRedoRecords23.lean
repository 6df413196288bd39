import Derived.Test.YtcbfnfggnocndaaZRedoRecords22
import Derived.WalkMore
import Derived.ScopeJumps
import Derived.Test.YtcbfnfggnocndaaZRedoRecords1
import Derived.Laws.IdiomStrings
import Derived.RangeFuncBox
import Derived.RangeFuncNested
import Derived.RangeFuncLeaves
import Derived.Shelf.Abstract
import Derived.Shelf.AbstractIn
import Derived.WalkKit
import Derived.OwnWalkIn
import Derived.TacticsInMore
import Derived.LoopNIn
import Derived.LoopIn
import Derived.Maps.AppendAt
import Derived.Lib.Hide
import Derived.Outline
import Derived.BigQuiet
section
/- The machine's side of laws of this seat: Go functions as Lean functions, and the proof that a call of each comes to what its function says (written by a program of this session, px.py, that runs the kit's print). -/
namespace Go.Proofs.Ytcbfnfggnocndaa.V
open Go.RowKit Go.Proofs.YtcbfnfggnocndaaW.PrintWords Go.Proofs.YtcbfnfggnocndaaW.PrintLast Go.Proofs.YtcbfnfggnocndaaW.PrintMore
attribute [local go_sem] max2_int min2_int max_two min_two max_three min_three max_four min_four   -- for this text's walks alone
attribute [local go_sem high] Go.Proofs.Ytcbfnfggnocndaa.px_xor_u8 Go.Proofs.Ytcbfnfggnocndaa.px_xor_u16 Go.Proofs.Ytcbfnfggnocndaa.px_xor_u32 Go.Proofs.Ytcbfnfggnocndaa.px_xor_u64
set_option linter.unusedVariables false
set_option linter.unusedSimpArgs false

/-! ### redo_stands: function 55 -/
def redo_stands.f (k : Nat) (l0 : List ByteArray) (a1 : Int) (a2 : Int) (a3 : Int) : Option (ByteArray × Int) := (redo_round.f l0 a1 a2).bind fun t114 => ((redo_number.f k a3).bind fun t115 => ((strings_HasPrefix.f t114 t115).bind fun t116 => (if t116 = true then (if 8 ≤ (t114.size : Int) then ((octet_TakeText.f (t114.extract 8 t114.size) 4096).bind fun bt117 => (if bt117.2.2 = 0 then ((redo_Record.f k a3 bt117.1).bind fun t120 => ((redo_sectors.f (t120.size : Int)).bind fun t121 => (if t121 > a2 then (some ((⟨#[]⟩ : ByteArray), 0)) else (if 0 ≤ (wrap64 (t121 * 64)) then (if (wrap64 (t121 * 64)) ≤ (t114.size : Int) then (if 0 ≤ (wrap64 ((wrap64 (t121 * 64)) - (t120.size : Int))) then (if (wrap64 ((wrap64 (t121 * 64)) - (t120.size : Int)) : Int).toNat ≤ 281474976710656 then ((some (List.replicate (wrap64 ((wrap64 (t121 * 64)) - (t120.size : Int)) : Int).toNat 0 : List Int)).bind fun y122 => (if t120.size + (strOfNums y122).size ≤ 9223372036854775807 then (if (t114.extract 0 ((wrap64 (t121 * 64)) : Int).toNat).toList = (t120 ++ (strOfNums y122)).toList then (some (bt117.1, t121)) else (some ((⟨#[]⟩ : ByteArray), 0))) else (none))) else (none)) else (none)) else (none)) else (none))))) else (some ((⟨#[]⟩ : ByteArray), 0)))) else (none)) else (some ((⟨#[]⟩ : ByteArray), 0)))))
theorem redo_stands.mono : ∀ a0 a1 a2 a3 k, LeO (redo_stands.f k a0 a1 a2 a3) (redo_stands.f (k + 1) a0 a1 a2 a3) := by
  intro a0 a1 a2 a3 k
  unfold redo_stands.f
  repeat' first
      | (with_reducible exact redo_Record.mono _ _ _)
      | (with_reducible exact redo_number.mono _ _)
      | (with_reducible exact LeO.refl _)
      | (with_reducible exact LeO.none _)
      | (with_reducible refine LeO.ite ?_ ?_)
      | (with_reducible refine LeO.bind ?_ (fun _ => ?_))
      | exact redo_Record.mono _ _ _
      | exact redo_number.mono _ _
      | exact LeO.none _
      | refine LeO.ite ?_ ?_
      | refine LeO.bind ?_ (fun _ => ?_)
def redo_stands.T9 : Bool × List (List Nat × List Nat) := (true, [([], []), ([], []), ([0, 1], [0, 1]), ([2], [2]), ([3], [3]), ([3], [3]), ([5, 3], [3, 5]), ([4, 6, 3], [3, 4, 6]), ([3], [3]), ([3], [3]), ([9, 3], [3, 9]), ([3], [3]), ([11, 3], [3, 11]), ([10, 12, 3], [3, 10, 12]), ([13, 13, 3], [3, 13]), ([14, 3], [3, 14]), ([8, 15, 3], [3, 8, 15]), ([7, 16, 3], [3, 7, 16]), ([3, 17], [3, 17])])
def redo_stands.B9 : List Nat := [0, 0, 3, 7, 15, 15, 47, 127, 15, 15, 527, 15, 2063, 7695, 15887, 32271, 65295, 131071, 262143]
theorem redo_stands.tab9 : rtab .any (opsOf Try.f55 9) = redo_stands.T9 := by kernel_rfl
theorem redo_stands.bits9 : waitsOk redo_stands.T9.2 redo_stands.B9 = true := by kernel_rfl
set_option maxHeartbeats 8000000 in
set_option maxRecDepth 100000 in
theorem redo_stands.calls (k : Nat) (A0 : Option Addr) (c0 : Nat) (l0 : List ByteArray) (a1 : Int) (a2 : Int) (a3 : Int) (r1 : ByteArray) (r2 : Int) (w : World) (hr0 : Kd.C Kd.string w A0 l0.length l0) (hc0 : l0.length ≤ c0) (h : redo_stands.f k l0 a1 a2 a3 = some (r1, r2)) :
    Calls Try.prog 55 #[.slice A0 l0.length c0, .int .i64 a1, .int .i64 a2, .int .u64 a3] w fun e w' => e = .returned (.tuple #[.string r1, .int .i64 r2]) ∧ Below w.heap.size w w' := by
  have HR0 := Aside0.mk hr0
  have HC0 := Aside0.mk hc0
  clear hr0 hc0
  have HB := Aside0.mk (Below.refl w.heap.size w)
  have H : ((redo_round.f l0 a1 a2).bind fun t114 => ((redo_number.f k a3).bind fun t115 => ((strings_HasPrefix.f t114 t115).bind fun t116 => (if t116 = true then (if 8 ≤ (t114.size : Int) then ((octet_TakeText.f (t114.extract 8 t114.size) 4096).bind fun bt117 => (if bt117.2.2 = 0 then ((redo_Record.f k a3 bt117.1).bind fun t120 => ((redo_sectors.f (t120.size : Int)).bind fun t121 => (if t121 > a2 then (some ((⟨#[]⟩ : ByteArray), 0)) else (if 0 ≤ (wrap64 (t121 * 64)) then (if (wrap64 (t121 * 64)) ≤ (t114.size : Int) then (if 0 ≤ (wrap64 ((wrap64 (t121 * 64)) - (t120.size : Int))) then (if (wrap64 ((wrap64 (t121 * 64)) - (t120.size : Int)) : Int).toNat ≤ 281474976710656 then ((some (List.replicate (wrap64 ((wrap64 (t121 * 64)) - (t120.size : Int)) : Int).toNat 0 : List Int)).bind fun y122 => (if t120.size + (strOfNums y122).size ≤ 9223372036854775807 then (if (t114.extract 0 ((wrap64 (t121 * 64)) : Int).toNat).toList = (t120 ++ (strOfNums y122)).toList then (some (bt117.1, t121)) else (some ((⟨#[]⟩ : ByteArray), 0))) else (none))) else (none)) else (none)) else (none)) else (none))))) else (some ((⟨#[]⟩ : ByteArray), 0)))) else (none)) else (some ((⟨#[]⟩ : ByteArray), 0)))))) = some (r1, r2) := h
  clear h
  replace H := Option.bind_eq_some_iff.mp H
  obtain ⟨t114, A50, H⟩ := H
  replace H : ((redo_number.f k a3).bind fun t115 => ((strings_HasPrefix.f t114 t115).bind fun t116 => (if t116 = true then (if 8 ≤ (t114.size : Int) then ((octet_TakeText.f (t114.extract 8 t114.size) 4096).bind fun bt117 => (if bt117.2.2 = 0 then ((redo_Record.f k a3 bt117.1).bind fun t120 => ((redo_sectors.f (t120.size : Int)).bind fun t121 => (if t121 > a2 then (some ((⟨#[]⟩ : ByteArray), 0)) else (if 0 ≤ (wrap64 (t121 * 64)) then (if (wrap64 (t121 * 64)) ≤ (t114.size : Int) then (if 0 ≤ (wrap64 ((wrap64 (t121 * 64)) - (t120.size : Int))) then (if (wrap64 ((wrap64 (t121 * 64)) - (t120.size : Int)) : Int).toNat ≤ 281474976710656 then ((some (List.replicate (wrap64 ((wrap64 (t121 * 64)) - (t120.size : Int)) : Int).toNat 0 : List Int)).bind fun y122 => (if t120.size + (strOfNums y122).size ≤ 9223372036854775807 then (if (t114.extract 0 ((wrap64 (t121 * 64)) : Int).toNat).toList = (t120 ++ (strOfNums y122)).toList then (some (bt117.1, t121)) else (some ((⟨#[]⟩ : ByteArray), 0))) else (none))) else (none)) else (none)) else (none)) else (none))))) else (some ((⟨#[]⟩ : ByteArray), 0)))) else (none)) else (some ((⟨#[]⟩ : ByteArray), 0))))) = some (r1, r2) := H
  have A5 := Aside0.mk A50
  clear A50
  replace H := Option.bind_eq_some_iff.mp H
  obtain ⟨t115, A60, H⟩ := H
  replace H : ((strings_HasPrefix.f t114 t115).bind fun t116 => (if t116 = true then (if 8 ≤ (t114.size : Int) then ((octet_TakeText.f (t114.extract 8 t114.size) 4096).bind fun bt117 => (if bt117.2.2 = 0 then ((redo_Record.f k a3 bt117.1).bind fun t120 => ((redo_sectors.f (t120.size : Int)).bind fun t121 => (if t121 > a2 then (some ((⟨#[]⟩ : ByteArray), 0)) else (if 0 ≤ (wrap64 (t121 * 64)) then (if (wrap64 (t121 * 64)) ≤ (t114.size : Int) then (if 0 ≤ (wrap64 ((wrap64 (t121 * 64)) - (t120.size : Int))) then (if (wrap64 ((wrap64 (t121 * 64)) - (t120.size : Int)) : Int).toNat ≤ 281474976710656 then ((some (List.replicate (wrap64 ((wrap64 (t121 * 64)) - (t120.size : Int)) : Int).toNat 0 : List Int)).bind fun y122 => (if t120.size + (strOfNums y122).size ≤ 9223372036854775807 then (if (t114.extract 0 ((wrap64 (t121 * 64)) : Int).toNat).toList = (t120 ++ (strOfNums y122)).toList then (some (bt117.1, t121)) else (some ((⟨#[]⟩ : ByteArray), 0))) else (none))) else (none)) else (none)) else (none)) else (none))))) else (some ((⟨#[]⟩ : ByteArray), 0)))) else (none)) else (some ((⟨#[]⟩ : ByteArray), 0)))) = some (r1, r2) := H
  have A6 := Aside0.mk A60
  clear A60
  replace H := Option.bind_eq_some_iff.mp H
  obtain ⟨t116, A70, H⟩ := H
  replace H : (if t116 = true then (if 8 ≤ (t114.size : Int) then ((octet_TakeText.f (t114.extract 8 t114.size) 4096).bind fun bt117 => (if bt117.2.2 = 0 then ((redo_Record.f k a3 bt117.1).bind fun t120 => ((redo_sectors.f (t120.size : Int)).bind fun t121 => (if t121 > a2 then (some ((⟨#[]⟩ : ByteArray), 0)) else (if 0 ≤ (wrap64 (t121 * 64)) then (if (wrap64 (t121 * 64)) ≤ (t114.size : Int) then (if 0 ≤ (wrap64 ((wrap64 (t121 * 64)) - (t120.size : Int))) then (if (wrap64 ((wrap64 (t121 * 64)) - (t120.size : Int)) : Int).toNat ≤ 281474976710656 then ((some (List.replicate (wrap64 ((wrap64 (t121 * 64)) - (t120.size : Int)) : Int).toNat 0 : List Int)).bind fun y122 => (if t120.size + (strOfNums y122).size ≤ 9223372036854775807 then (if (t114.extract 0 ((wrap64 (t121 * 64)) : Int).toNat).toList = (t120 ++ (strOfNums y122)).toList then (some (bt117.1, t121)) else (some ((⟨#[]⟩ : ByteArray), 0))) else (none))) else (none)) else (none)) else (none)) else (none))))) else (some ((⟨#[]⟩ : ByteArray), 0)))) else (none)) else (some ((⟨#[]⟩ : ByteArray), 0))) = some (r1, r2) := H
  have A7 := Aside0.mk A70
  clear A70
  by_cases c8 : t116 = true
  · subst c8
    have H1 : (if 8 ≤ (t114.size : Int) then ((octet_TakeText.f (t114.extract 8 t114.size) 4096).bind fun bt117 => (if bt117.2.2 = 0 then ((redo_Record.f k a3 bt117.1).bind fun t120 => ((redo_sectors.f (t120.size : Int)).bind fun t121 => (if t121 > a2 then (some ((⟨#[]⟩ : ByteArray), 0)) else (if 0 ≤ (wrap64 (t121 * 64)) then (if (wrap64 (t121 * 64)) ≤ (t114.size : Int) then (if 0 ≤ (wrap64 ((wrap64 (t121 * 64)) - (t120.size : Int))) then (if (wrap64 ((wrap64 (t121 * 64)) - (t120.size : Int)) : Int).toNat ≤ 281474976710656 then ((some (List.replicate (wrap64 ((wrap64 (t121 * 64)) - (t120.size : Int)) : Int).toNat 0 : List Int)).bind fun y122 => (if t120.size + (strOfNums y122).size ≤ 9223372036854775807 then (if (t114.extract 0 ((wrap64 (t121 * 64)) : Int).toNat).toList = (t120 ++ (strOfNums y122)).toList then (some (bt117.1, t121)) else (some ((⟨#[]⟩ : ByteArray), 0))) else (none))) else (none)) else (none)) else (none)) else (none))))) else (some ((⟨#[]⟩ : ByteArray), 0)))) else (none)) = some (r1, r2) := by rw [if_pos rfl] at H; exact H
    clear H
    have H := H1
    clear H1
    by_cases c9 : 8 ≤ (t114.size : Int)
    · rw [if_pos c9] at H
      have c9b0 := eq_true c9
      have c9b1 : decide (8 ≤ (t114.size : Int)) = true := decide_eq_true c9
      clear c9
      replace H := Option.bind_eq_some_iff.mp H
      obtain ⟨⟨t117, t118, t119⟩, A100, H⟩ := H
      replace H : (if t119 = 0 then ((redo_Record.f k a3 t117).bind fun t120 => ((redo_sectors.f (t120.size : Int)).bind fun t121 => (if t121 > a2 then (some ((⟨#[]⟩ : ByteArray), 0)) else (if 0 ≤ (wrap64 (t121 * 64)) then (if (wrap64 (t121 * 64)) ≤ (t114.size : Int) then (if 0 ≤ (wrap64 ((wrap64 (t121 * 64)) - (t120.size : Int))) then (if (wrap64 ((wrap64 (t121 * 64)) - (t120.size : Int)) : Int).toNat ≤ 281474976710656 then ((some (List.replicate (wrap64 ((wrap64 (t121 * 64)) - (t120.size : Int)) : Int).toNat 0 : List Int)).bind fun y122 => (if t120.size + (strOfNums y122).size ≤ 9223372036854775807 then (if (t114.extract 0 ((wrap64 (t121 * 64)) : Int).toNat).toList = (t120 ++ (strOfNums y122)).toList then (some (t117, t121)) else (some ((⟨#[]⟩ : ByteArray), 0))) else (none))) else (none)) else (none)) else (none)) else (none))))) else (some ((⟨#[]⟩ : ByteArray), 0))) = some (r1, r2) := H
      have A10 := Aside0.mk A100
      clear A100
      by_cases c11 : t119 = 0
      · rw [if_pos c11] at H
        have c11b0 : (t119 == 0) = true := beq_iff_eq.mpr c11
        have c11b1 : (t119 != 0) = false := bne_eq_false_iff_eq.mpr c11
        clear c11
        replace H := Option.bind_eq_some_iff.mp H
        obtain ⟨t120, A120, H⟩ := H
        replace H : ((redo_sectors.f (t120.size : Int)).bind fun t121 => (if t121 > a2 then (some ((⟨#[]⟩ : ByteArray), 0)) else (if 0 ≤ (wrap64 (t121 * 64)) then (if (wrap64 (t121 * 64)) ≤ (t114.size : Int) then (if 0 ≤ (wrap64 ((wrap64 (t121 * 64)) - (t120.size : Int))) then (if (wrap64 ((wrap64 (t121 * 64)) - (t120.size : Int)) : Int).toNat ≤ 281474976710656 then ((some (List.replicate (wrap64 ((wrap64 (t121 * 64)) - (t120.size : Int)) : Int).toNat 0 : List Int)).bind fun y122 => (if t120.size + (strOfNums y122).size ≤ 9223372036854775807 then (if (t114.extract 0 ((wrap64 (t121 * 64)) : Int).toNat).toList = (t120 ++ (strOfNums y122)).toList then (some (t117, t121)) else (some ((⟨#[]⟩ : ByteArray), 0))) else (none))) else (none)) else (none)) else (none)) else (none)))) = some (r1, r2) := H
        have A12 := Aside0.mk A120
        clear A120
        replace H := Option.bind_eq_some_iff.mp H
        obtain ⟨t121, A130, H⟩ := H
        replace H : (if t121 > a2 then (some ((⟨#[]⟩ : ByteArray), 0)) else (if 0 ≤ (wrap64 (t121 * 64)) then (if (wrap64 (t121 * 64)) ≤ (t114.size : Int) then (if 0 ≤ (wrap64 ((wrap64 (t121 * 64)) - (t120.size : Int))) then (if (wrap64 ((wrap64 (t121 * 64)) - (t120.size : Int)) : Int).toNat ≤ 281474976710656 then ((some (List.replicate (wrap64 ((wrap64 (t121 * 64)) - (t120.size : Int)) : Int).toNat 0 : List Int)).bind fun y122 => (if t120.size + (strOfNums y122).size ≤ 9223372036854775807 then (if (t114.extract 0 ((wrap64 (t121 * 64)) : Int).toNat).toList = (t120 ++ (strOfNums y122)).toList then (some (t117, t121)) else (some ((⟨#[]⟩ : ByteArray), 0))) else (none))) else (none)) else (none)) else (none)) else (none))) = some (r1, r2) := H
        have A13 := Aside0.mk A130
        clear A130
        by_cases c14 : t121 > a2
        · rw [if_pos c14] at H
          have c14b0 : decide (a2 < t121) = true := decide_eq_true c14
          clear c14
          simp only [Option.some.injEq, Prod.mk.injEq] at H
          obtain ⟨rfl, rfl⟩ := H
          go_enter Try.func55, Try.ntmps55
          try go_wp2_with (first | ((with_reducible refine gate_callee (f := 64) rfl ?_); refine goesL_ (some 19) rfl rfl Try.func64 (by kernel_rfl) rfl #[.slice A0 l0.length c0, .int .i64 a1, .int .i64 a2] rfl (by (try simp only [List.map_toArray, List.map_cons, List.map_nil]); first | done | rfl | (simp only [List.length_drop, List.length_take]; rfl)) ?_; (with_reducible refine (redo_round.calls _ _ l0 a1 a2 t114 _ ?side1 ?side2 A5.out).mono ?_); (case side1 => repeat (first | exact HR0.out | (with_reducible refine Kd.C_alloc ?_ _) | (with_reducible refine Kd.C_drewN ?_ _) | (with_reducible refine Kd.C_drew ?_))); (case side2 => exact HC0.out); rintro e w15 ⟨rfl, hb⟩; refine ⟨_, rfl, ?_⟩; have n0_ := Aside0.mk (below_step (by repeat (first | (with_reducible first | exact HB.out | apply below_alloc | apply pw_below_drewN | apply below_drew1) | exact HB.out)) hb); clear HB; have HB := n0_; clear n0_; (try clear hb); (try clear hb2); (try clear hk); (try clear hi)) | ((with_reducible refine gate_callee (f := 35) rfl ?_); refine goesL_ (some 22) rfl rfl Try.func35 (by kernel_rfl) rfl #[.int .u64 a3] rfl (by (try simp only [List.map_toArray, List.map_cons, List.map_nil]); first | done | rfl | (simp only [List.length_drop, List.length_take]; rfl)) ?_; (with_reducible refine (redo_number.calls k a3 t115 _ A6.out).mono ?_); rintro e w16 ⟨rfl, hb⟩; refine ⟨_, rfl, ?_⟩; have n0_ := Aside0.mk (below_step (by repeat (first | (with_reducible first | exact HB.out | apply below_alloc | apply pw_below_drewN | apply below_drew1) | exact HB.out)) hb); clear HB; have HB := n0_; clear n0_; (try clear hb); (try clear hb2); (try clear hk); (try clear hi)) | ((with_reducible refine gate_callee (f := 65) rfl ?_); refine goesL_ (some 23) rfl rfl Try.func65 (by kernel_rfl) rfl #[.string t114, .string t115] rfl (by (try simp only [List.map_toArray, List.map_cons, List.map_nil]); first | done | rfl | (simp only [List.length_drop, List.length_take]; rfl)) ?_; (with_reducible refine (strings_HasPrefix.calls t114 t115 true _ A7.out).mono ?_); rintro e w' ⟨rfl, ⟨nd, rfl⟩⟩; refine ⟨_, rfl, ?_⟩) | ((with_reducible refine gate_callee (f := 66) rfl ?_); refine goesL_ (some 28) rfl rfl Try.func66 (by kernel_rfl) rfl #[.string (t114.extract 8 t114.size), .int .i64 4096] rfl (by (try simp only [List.map_toArray, List.map_cons, List.map_nil]); first | done | rfl | (simp only [List.length_drop, List.length_take]; rfl)) ?_; (with_reducible refine (octet_TakeText.calls (t114.extract 8 t114.size) 4096 t117 t118 t119 _ A10.out).mono ?_); rintro e w' ⟨rfl, ⟨nd, rfl⟩⟩; refine ⟨_, rfl, ?_⟩) | ((with_reducible refine gate_callee (f := 15) rfl ?_); refine goesL_ (some 36) rfl rfl Try.func15 (by kernel_rfl) rfl #[.int .u64 a3, .string t117] rfl (by (try simp only [List.map_toArray, List.map_cons, List.map_nil]); first | done | rfl | (simp only [List.length_drop, List.length_take]; rfl)) ?_; (with_reducible refine (redo_Record.calls k a3 t117 t120 _ A12.out).mono ?_); rintro e w17 ⟨rfl, hb⟩; refine ⟨_, rfl, ?_⟩; have n0_ := Aside0.mk (below_step (by repeat (first | (with_reducible first | exact HB.out | apply below_alloc | apply pw_below_drewN | apply below_drew1) | exact HB.out)) hb); clear HB; have HB := n0_; clear n0_; (try clear hb); (try clear hb2); (try clear hk); (try clear hi)) | ((with_reducible refine gate_callee (f := 33) rfl ?_); refine goesL_ (some 39) rfl rfl Try.func33 (by kernel_rfl) rfl #[.int .i64 (t120.size : Int)] rfl (by (try simp only [List.map_toArray, List.map_cons, List.map_nil]); first | done | rfl | (simp only [List.length_drop, List.length_take]; rfl)) ?_; (with_reducible refine (redo_sectors.calls (t120.size : Int) t121 _ A13.out).mono ?_); rintro e w' ⟨rfl, ⟨nd, rfl⟩⟩; refine ⟨_, rfl, ?_⟩))
          (try (rw [drewN_self w17]; generalize hq_ : World.drewN w17 _ = w17; have n0_ : Aside0 (Below w.heap.size w w17) := ⟨by rw [← hq_]; exact (by repeat (first | (with_reducible first | exact HB.out | apply below_alloc | apply pw_below_drewN | apply below_drew1) | exact HB.out))⟩; clear HB hq_; have HB := n0_; clear n0_))
          have n0_ := Aside0.mk (below_drew1 HB.out)
          clear HB
          have HB := n0_
          clear n0_
          refine start_ (n := 19) (S := fun w' => True) (ds := []) #[false, false, false, false, false, false, false, false, false, false, false, false, false, false, false, false, false, false, false] (by kernel_rfl) rfl rfl trivial (fun hHeld => ?_); refine with_tabW redo_stands.tab9 redo_stands.bits9 (fun HT_ HW_ => ?_)
          generalize w17.drew = w18 at HB hHeld ⊢
          refine pure_ (i := 0) (N := some 40) (v := ?_) (a' := ?_) #[true, false, false, false, false, false, false, false, false, false, false, false, false, false, false, false, false, false, false] rfl rfl (any_of HT_.out (by kernel_rfl)) (fun _ _ _ h => h) (Or.inl ⟨by rfl, ?_⟩) ?_ ?_
          rotate_left
          · intro w'
            go_simp
            with_reducible rfl
          rotate_left
          · simp only [Act.put, List.setIfInBounds_toArray, List.set_cons_zero, List.set_cons_succ, i64_w, i32_w]
            rfl
          refine pure_ (i := 1) (N := some 41) (v := ?_) (a' := ?_) #[true, true, false, false, false, false, false, false, false, false, false, false, false, false, false, false, false, false, false] rfl rfl (any_of HT_.out (by kernel_rfl)) (fun _ _ _ h => h) (Or.inl ⟨by rfl, ?_⟩) ?_ ?_
          rotate_left
          · intro w'
            go_simp
            with_reducible rfl
          rotate_left
          · simp only [Act.put, List.setIfInBounds_toArray, List.set_cons_zero, List.set_cons_succ, i64_w, i32_w]
            rfl
          refine pure_ (i := 2) (N := some 42) (v := ?_) (a' := ?_) #[true, true, true, false, false, false, false, false, false, false, false, false, false, false, false, false, false, false, false] rfl rfl (any_of HT_.out (by kernel_rfl)) (fun _ _ _ h => h) (Or.inl ⟨by rfl, ?_⟩) ?_ ?_
          rotate_left
          · intro w'
            go_simp
            with_reducible rfl
          rotate_left
          · simp only [Act.put, List.setIfInBounds_toArray, List.set_cons_zero, List.set_cons_succ, i64_w, i32_w]
            rfl
          refine pure_ (i := 3) (N := some 43) (v := ?_) (a' := ?_) #[true, true, true, true, false, false, false, false, false, false, false, false, false, false, false, false, false, false, false] rfl rfl (any_of HT_.out (by kernel_rfl)) (fun _ _ _ h => h) (Or.inl ⟨by rfl, ?_⟩) ?_ ?_
          rotate_left
          · intro w'
            go_simp
            with_reducible rfl
          rotate_left
          · simp only [Act.put, List.setIfInBounds_toArray, List.set_cons_zero, List.set_cons_succ, i64_w, i32_w]
            rfl
          refine pure_ (i := 4) (N := some 44) (v := undef) (a' := ?_) #[true, true, true, true, true, false, false, false, false, false, false, false, false, false, false, false, false, false, false] rfl rfl (any_of HT_.out (by kernel_rfl)) (fun _ _ _ h => h) (Or.inr ⟨by rfl, rfl⟩) ?_ ?_
          rotate_left
          · simp only [Act.put, List.setIfInBounds_toArray, List.set_cons_zero, List.set_cons_succ, i64_w, i32_w]
            rfl
          refine pure_ (i := 5) (N := some 45) (v := undef) (a' := ?_) #[true, true, true, true, true, true, false, false, false, false, false, false, false, false, false, false, false, false, false] rfl rfl (any_of HT_.out (by kernel_rfl)) (fun _ _ _ h => h) (Or.inr ⟨by rfl, rfl⟩) ?_ ?_
          rotate_left
          · simp only [Act.put, List.setIfInBounds_toArray, List.set_cons_zero, List.set_cons_succ, i64_w, i32_w]
            rfl
          refine pure_ (i := 6) (N := some 46) (v := undef) (a' := ?_) #[true, true, true, true, true, true, true, false, false, false, false, false, false, false, false, false, false, false, false] rfl rfl (any_of HT_.out (by kernel_rfl)) (fun _ _ _ h => h) (Or.inr ⟨by rfl, rfl⟩) ?_ ?_
          rotate_left
          · simp only [Act.put, List.setIfInBounds_toArray, List.set_cons_zero, List.set_cons_succ, i64_w, i32_w]
            rfl
          refine pure_ (i := 7) (N := some 47) (v := undef) (a' := ?_) #[true, true, true, true, true, true, true, true, false, false, false, false, false, false, false, false, false, false, false] rfl rfl (any_of HT_.out (by kernel_rfl)) (fun _ _ _ h => h) (Or.inr ⟨by rfl, rfl⟩) ?_ ?_
          rotate_left
          · simp only [Act.put, List.setIfInBounds_toArray, List.set_cons_zero, List.set_cons_succ, i64_w, i32_w]
            rfl
          refine pure_ (i := 8) (N := some 48) (v := undef) (a' := ?_) #[true, true, true, true, true, true, true, true, true, false, false, false, false, false, false, false, false, false, false] rfl rfl (any_of HT_.out (by kernel_rfl)) (fun _ _ _ h => h) (Or.inr ⟨by rfl, rfl⟩) ?_ ?_
          rotate_left
          · simp only [Act.put, List.setIfInBounds_toArray, List.set_cons_zero, List.set_cons_succ, i64_w, i32_w]
            rfl
          refine pure_ (i := 9) (N := some 49) (v := undef) (a' := ?_) #[true, true, true, true, true, true, true, true, true, true, false, false, false, false, false, false, false, false, false] rfl rfl (any_of HT_.out (by kernel_rfl)) (fun _ _ _ h => h) (Or.inr ⟨by rfl, rfl⟩) ?_ ?_
          rotate_left
          · simp only [Act.put, List.setIfInBounds_toArray, List.set_cons_zero, List.set_cons_succ, i64_w, i32_w]
            rfl
          refine pure_ (i := 10) (N := some 50) (v := undef) (a' := ?_) #[true, true, true, true, true, true, true, true, true, true, true, false, false, false, false, false, false, false, false] rfl rfl (any_of HT_.out (by kernel_rfl)) (fun _ _ _ h => h) (Or.inr ⟨by rfl, rfl⟩) ?_ ?_
          rotate_left
          · simp only [Act.put, List.setIfInBounds_toArray, List.set_cons_zero, List.set_cons_succ, i64_w, i32_w]
            rfl
          refine pure_ (i := 11) (N := some 51) (v := undef) (a' := ?_) #[true, true, true, true, true, true, true, true, true, true, true, true, false, false, false, false, false, false, false] rfl rfl (any_of HT_.out (by kernel_rfl)) (fun _ _ _ h => h) (Or.inr ⟨by rfl, rfl⟩) ?_ ?_
          rotate_left
          · simp only [Act.put, List.setIfInBounds_toArray, List.set_cons_zero, List.set_cons_succ, i64_w, i32_w]
            rfl
          refine pure_ (i := 12) (N := some 52) (v := undef) (a' := ?_) #[true, true, true, true, true, true, true, true, true, true, true, true, true, false, false, false, false, false, false] rfl rfl (any_of HT_.out (by kernel_rfl)) (fun _ _ _ h => h) (Or.inr ⟨by rfl, rfl⟩) ?_ ?_
          rotate_left
          · simp only [Act.put, List.setIfInBounds_toArray, List.set_cons_zero, List.set_cons_succ, i64_w, i32_w]
            rfl
          refine pure_ (i := 13) (N := some 53) (v := undef) (a' := ?_) #[true, true, true, true, true, true, true, true, true, true, true, true, true, true, false, false, false, false, false] rfl rfl (any_of HT_.out (by kernel_rfl)) (fun _ _ _ h => h) (Or.inr ⟨by rfl, rfl⟩) ?_ ?_
          rotate_left
          · simp only [Act.put, List.setIfInBounds_toArray, List.set_cons_zero, List.set_cons_succ, i64_w, i32_w]
            rfl
          refine pure_ (i := 14) (N := some 54) (v := undef) (a' := ?_) #[true, true, true, true, true, true, true, true, true, true, true, true, true, true, true, false, false, false, false] rfl rfl (any_of HT_.out (by kernel_rfl)) (fun _ _ _ h => h) (Or.inr ⟨by rfl, rfl⟩) ?_ ?_
          rotate_left
          · simp only [Act.put, List.setIfInBounds_toArray, List.set_cons_zero, List.set_cons_succ, i64_w, i32_w]
            rfl
          refine pure_ (i := 15) (N := some 55) (v := undef) (a' := ?_) #[true, true, true, true, true, true, true, true, true, true, true, true, true, true, true, true, false, false, false] rfl rfl (any_of HT_.out (by kernel_rfl)) (fun _ _ _ h => h) (Or.inr ⟨by rfl, rfl⟩) ?_ ?_
          rotate_left
          · simp only [Act.put, List.setIfInBounds_toArray, List.set_cons_zero, List.set_cons_succ, i64_w, i32_w]
            rfl
          refine pure_ (i := 16) (N := some 56) (v := undef) (a' := ?_) #[true, true, true, true, true, true, true, true, true, true, true, true, true, true, true, true, true, false, false] rfl rfl (any_of HT_.out (by kernel_rfl)) (fun _ _ _ h => h) (Or.inr ⟨by rfl, rfl⟩) ?_ ?_
          rotate_left
          · simp only [Act.put, List.setIfInBounds_toArray, List.set_cons_zero, List.set_cons_succ, i64_w, i32_w]
            rfl
          refine pure_ (i := 17) (N := some 57) (v := undef) (a' := ?_) #[true, true, true, true, true, true, true, true, true, true, true, true, true, true, true, true, true, true, false] rfl rfl (any_of HT_.out (by kernel_rfl)) (fun _ _ _ h => h) (Or.inr ⟨by rfl, rfl⟩) ?_ ?_
          rotate_left
          · simp only [Act.put, List.setIfInBounds_toArray, List.set_cons_zero, List.set_cons_succ, i64_w, i32_w]
            rfl
          refine pure_ (i := 18) (N := some 58) (v := ?_) (a' := ?_) #[true, true, true, true, true, true, true, true, true, true, true, true, true, true, true, true, true, true, true] rfl rfl (any_of HT_.out (by kernel_rfl)) (fun _ _ _ h => h) (Or.inl ⟨by rfl, ?_⟩) ?_ ?_
          rotate_left
          · intro w'
            go_simp
            with_reducible rfl
          rotate_left
          · simp only [Act.put, List.setIfInBounds_toArray, List.set_cons_zero, List.set_cons_succ, i64_w, i32_w]
            rfl
          refine done_ (done_of HT_.out (by kernel_rfl)) ?_
          try go_wp2
          go_ret2
          exact ⟨by first | rfl | (simp [errW_none, errW_some] <;> rfl) | (simp [*, errW_none, errW_some] <;> rfl), by repeat (first | (with_reducible first | exact HB.out | apply below_alloc | apply pw_below_drewN | apply below_drew1) | exact HB.out)⟩
        · rw [if_neg c14] at H
          have c14b0 : decide (a2 < t121) = false := decide_eq_false c14
          clear c14
          obtain ⟨ji19, hji19⟩ : ∃ j_ : Int, (wrap64 (t121 * 64)) = j_ := ⟨_, rfl⟩
          replace H : (if 0 ≤ (ji19) then (if (ji19) ≤ (t114.size : Int) then (if 0 ≤ (wrap64 ((ji19) - (t120.size : Int))) then (if (wrap64 ((ji19) - (t120.size : Int)) : Int).toNat ≤ 281474976710656 then ((some (List.replicate (wrap64 ((ji19) - (t120.size : Int)) : Int).toNat 0 : List Int)).bind fun y122 => (if t120.size + (strOfNums y122).size ≤ 9223372036854775807 then (if (t114.extract 0 ((ji19) : Int).toNat).toList = (t120 ++ (strOfNums y122)).toList then (some (t117, t121)) else (some ((⟨#[]⟩ : ByteArray), 0))) else (none))) else (none)) else (none)) else (none)) else (none)) = some (r1, r2) := by first | (rw [hji19] at H; exact H) | (simp only [hji19] at H ⊢; exact H)
          (try rw [hji19] at A5)
          (try rw [hji19] at A6)
          (try rw [hji19] at A7)
          (try rw [hji19] at A10)
          (try rw [hji19] at A12)
          (try rw [hji19] at A13)
          have hji19w : (IntKind.i64.wrap (t121 * 64)) = ji19 := (i64_w _).trans hji19
          by_cases c20 : 0 ≤ (ji19)
          · rw [if_pos c20] at H
            have c20b0 := eq_true c20
            have c20b1 : decide (0 ≤ (ji19)) = true := decide_eq_true c20
            clear c20
            by_cases c21 : (ji19) ≤ (t114.size : Int)
            · rw [if_pos c21] at H
              have c21b0 := eq_true c21
              have c21b1 : decide ((ji19) ≤ (t114.size : Int)) = true := decide_eq_true c21
              clear c21
              obtain ⟨ji22, hji22⟩ : ∃ j_ : Int, (wrap64 ((ji19) - (t120.size : Int))) = j_ := ⟨_, rfl⟩
              replace H : (if 0 ≤ (ji22) then (if (ji22 : Int).toNat ≤ 281474976710656 then ((some (List.replicate (ji22 : Int).toNat 0 : List Int)).bind fun y122 => (if t120.size + (strOfNums y122).size ≤ 9223372036854775807 then (if (t114.extract 0 ((ji19) : Int).toNat).toList = (t120 ++ (strOfNums y122)).toList then (some (t117, t121)) else (some ((⟨#[]⟩ : ByteArray), 0))) else (none))) else (none)) else (none)) = some (r1, r2) := by first | (rw [hji22] at H; exact H) | (simp only [hji22] at H ⊢; exact H)
              (try rw [hji22] at A5)
              (try rw [hji22] at A6)
              (try rw [hji22] at A7)
              (try rw [hji22] at A10)
              (try rw [hji22] at A12)
              (try rw [hji22] at A13)
              have hji22w : (IntKind.i64.wrap ((ji19) - (t120.size : Int))) = ji22 := (i64_w _).trans hji22
              by_cases c23 : 0 ≤ (ji22)
              · rw [if_pos c23] at H
                have c23b0 := eq_true c23
                have c23b1 : decide (0 ≤ (ji22)) = true := decide_eq_true c23
                clear c23
                by_cases c24 : (ji22 : Int).toNat ≤ 281474976710656
                · rw [if_pos c24] at H
                  have c24b0 := eq_true c24
                  have c24b1 : decide ((ji22 : Int).toNat ≤ 281474976710656) = true := decide_eq_true c24
                  clear c24
                  obtain ⟨y122, hy122⟩ : ∃ y_ : List Int, y_ = (List.replicate (ji22 : Int).toNat 0) := ⟨_, rfl⟩
                  replace H : (if t120.size + (strOfNums y122).size ≤ 9223372036854775807 then (if (t114.extract 0 ((ji19) : Int).toNat).toList = (t120 ++ (strOfNums y122)).toList then (some (t117, t121)) else (some ((⟨#[]⟩ : ByteArray), 0))) else (none)) = some (r1, r2) := by first | (rw [hy122]; with_reducible exact H) | (have H2_ := (Option.bind_some _ _).symm.trans H; rw [hy122]; with_reducible exact H2_) | (have H2_ := (Option.bind_some _ _).symm.trans H; with_reducible exact H2_) | with_reducible exact H | (rw [hy122]; exact H) | exact H
                  have Ny122 := Aside0.mk hy122
                  clear hy122
                  by_cases c25 : t120.size + (strOfNums y122).size ≤ 9223372036854775807
                  · rw [if_pos c25] at H
                    have c25b0 := eq_true c25
                    have c25b1 : decide (t120.size + (strOfNums y122).size ≤ 9223372036854775807) = true := decide_eq_true c25
                    try have c25b2 : (9223372036854775807 < t120.size + (strOfNums y122).size) = False := eq_false (Nat.not_lt.2 c25)
                    by_cases c26 : (t114.extract 0 ((ji19) : Int).toNat).toList = (t120 ++ (strOfNums y122)).toList
                    · rw [if_pos c26] at H
                      have c26b0 : ((t114.extract 0 ((ji19) : Int).toNat).toList == (t120 ++ (strOfNums y122)).toList) = true := beq_iff_eq.mpr c26
                      have c26b1 : ((t114.extract 0 ((ji19) : Int).toNat).toList != (t120 ++ (strOfNums y122)).toList) = false := bne_eq_false_iff_eq.mpr c26
                      clear c26
                      simp only [Option.some.injEq, Prod.mk.injEq] at H
                      obtain ⟨rfl, rfl⟩ := H
                      go_enter Try.func55, Try.ntmps55
                      try go_wp2_with (first | ((with_reducible refine gate_callee (f := 64) rfl ?_); refine goesL_ (some 19) rfl rfl Try.func64 (by kernel_rfl) rfl #[.slice A0 l0.length c0, .int .i64 a1, .int .i64 a2] rfl (by (try simp only [List.map_toArray, List.map_cons, List.map_nil]); first | done | rfl | (simp only [List.length_drop, List.length_take]; rfl)) ?_; (with_reducible refine (redo_round.calls _ _ l0 a1 a2 t114 _ ?side1 ?side2 A5.out).mono ?_); (case side1 => repeat (first | exact HR0.out | (with_reducible refine Kd.C_alloc ?_ _) | (with_reducible refine Kd.C_drewN ?_ _) | (with_reducible refine Kd.C_drew ?_))); (case side2 => exact HC0.out); rintro e w27 ⟨rfl, hb⟩; refine ⟨_, rfl, ?_⟩; have n0_ := Aside0.mk (below_step (by repeat (first | (with_reducible first | exact HB.out | apply below_alloc | apply pw_below_drewN | apply below_drew1) | exact HB.out)) hb); clear HB; have HB := n0_; clear n0_; (try clear hb); (try clear hb2); (try clear hk); (try clear hi)) | ((with_reducible refine gate_callee (f := 35) rfl ?_); refine goesL_ (some 22) rfl rfl Try.func35 (by kernel_rfl) rfl #[.int .u64 a3] rfl (by (try simp only [List.map_toArray, List.map_cons, List.map_nil]); first | done | rfl | (simp only [List.length_drop, List.length_take]; rfl)) ?_; (with_reducible refine (redo_number.calls k a3 t115 _ A6.out).mono ?_); rintro e w28 ⟨rfl, hb⟩; refine ⟨_, rfl, ?_⟩; have n0_ := Aside0.mk (below_step (by repeat (first | (with_reducible first | exact HB.out | apply below_alloc | apply pw_below_drewN | apply below_drew1) | exact HB.out)) hb); clear HB; have HB := n0_; clear n0_; (try clear hb); (try clear hb2); (try clear hk); (try clear hi)) | ((with_reducible refine gate_callee (f := 65) rfl ?_); refine goesL_ (some 23) rfl rfl Try.func65 (by kernel_rfl) rfl #[.string t114, .string t115] rfl (by (try simp only [List.map_toArray, List.map_cons, List.map_nil]); first | done | rfl | (simp only [List.length_drop, List.length_take]; rfl)) ?_; (with_reducible refine (strings_HasPrefix.calls t114 t115 true _ A7.out).mono ?_); rintro e w' ⟨rfl, ⟨nd, rfl⟩⟩; refine ⟨_, rfl, ?_⟩) | ((with_reducible refine gate_callee (f := 66) rfl ?_); refine goesL_ (some 28) rfl rfl Try.func66 (by kernel_rfl) rfl #[.string (t114.extract 8 t114.size), .int .i64 4096] rfl (by (try simp only [List.map_toArray, List.map_cons, List.map_nil]); first | done | rfl | (simp only [List.length_drop, List.length_take]; rfl)) ?_; (with_reducible refine (octet_TakeText.calls (t114.extract 8 t114.size) 4096 t117 t118 t119 _ A10.out).mono ?_); rintro e w' ⟨rfl, ⟨nd, rfl⟩⟩; refine ⟨_, rfl, ?_⟩) | ((with_reducible refine gate_callee (f := 15) rfl ?_); refine goesL_ (some 36) rfl rfl Try.func15 (by kernel_rfl) rfl #[.int .u64 a3, .string t117] rfl (by (try simp only [List.map_toArray, List.map_cons, List.map_nil]); first | done | rfl | (simp only [List.length_drop, List.length_take]; rfl)) ?_; (with_reducible refine (redo_Record.calls k a3 t117 t120 _ A12.out).mono ?_); rintro e w29 ⟨rfl, hb⟩; refine ⟨_, rfl, ?_⟩; have n0_ := Aside0.mk (below_step (by repeat (first | (with_reducible first | exact HB.out | apply below_alloc | apply pw_below_drewN | apply below_drew1) | exact HB.out)) hb); clear HB; have HB := n0_; clear n0_; (try clear hb); (try clear hb2); (try clear hk); (try clear hi)) | ((with_reducible refine gate_callee (f := 33) rfl ?_); refine goesL_ (some 39) rfl rfl Try.func33 (by kernel_rfl) rfl #[.int .i64 (t120.size : Int)] rfl (by (try simp only [List.map_toArray, List.map_cons, List.map_nil]); first | done | rfl | (simp only [List.length_drop, List.length_take]; rfl)) ?_; (with_reducible refine (redo_sectors.calls (t120.size : Int) t121 _ A13.out).mono ?_); rintro e w' ⟨rfl, ⟨nd, rfl⟩⟩; refine ⟨_, rfl, ?_⟩))
                      (try (rw [drewN_self w29]; generalize hq_ : World.drewN w29 _ = w29; have n0_ : Aside0 (Below w.heap.size w w29) := ⟨by rw [← hq_]; exact (by repeat (first | (with_reducible first | exact HB.out | apply below_alloc | apply pw_below_drewN | apply below_drew1) | exact HB.out))⟩; clear HB hq_; have HB := n0_; clear n0_))
                      have n0_ := Aside0.mk (below_drew1 HB.out)
                      clear HB
                      have HB := n0_
                      clear n0_
                      refine start_ (n := 19) (S := fun w' => True) (ds := []) #[false, false, false, false, false, false, false, false, false, false, false, false, false, false, false, false, false, false, false] (by kernel_rfl) rfl rfl trivial (fun hHeld => ?_); refine with_tabW redo_stands.tab9 redo_stands.bits9 (fun HT_ HW_ => ?_)
                      generalize w29.drew = w30 at HB hHeld ⊢
                      refine pure_ (i := 0) (N := some 40) (v := ?_) (a' := ?_) #[true, false, false, false, false, false, false, false, false, false, false, false, false, false, false, false, false, false, false] rfl rfl (any_of HT_.out (by kernel_rfl)) (fun _ _ _ h => h) (Or.inl ⟨by rfl, ?_⟩) ?_ ?_
                      rotate_left
                      · intro w'
                        go_simp
                        with_reducible rfl
                      rotate_left
                      · simp only [Act.put, List.setIfInBounds_toArray, List.set_cons_zero, List.set_cons_succ, i64_w, i32_w]
                        rfl
                      refine pure_ (i := 1) (N := some 41) (v := ?_) (a' := ?_) #[true, true, false, false, false, false, false, false, false, false, false, false, false, false, false, false, false, false, false] rfl rfl (any_of HT_.out (by kernel_rfl)) (fun _ _ _ h => h) (Or.inl ⟨by rfl, ?_⟩) ?_ ?_
                      rotate_left
                      · intro w'
                        go_simp
                        with_reducible rfl
                      rotate_left
                      · simp only [Act.put, List.setIfInBounds_toArray, List.set_cons_zero, List.set_cons_succ, i64_w, i32_w]
                        rfl
                      refine pure_ (i := 2) (N := some 42) (v := ?_) (a' := ?_) #[true, true, true, false, false, false, false, false, false, false, false, false, false, false, false, false, false, false, false] rfl rfl (any_of HT_.out (by kernel_rfl)) (fun _ _ _ h => h) (Or.inl ⟨by rfl, ?_⟩) ?_ ?_
                      rotate_left
                      · intro w'
                        go_simp
                        with_reducible rfl
                      rotate_left
                      · simp only [Act.put, List.setIfInBounds_toArray, List.set_cons_zero, List.set_cons_succ, i64_w, i32_w]
                        rfl
                      refine pure_ (i := 3) (N := some 43) (v := ?_) (a' := ?_) #[true, true, true, true, false, false, false, false, false, false, false, false, false, false, false, false, false, false, false] rfl rfl (any_of HT_.out (by kernel_rfl)) (fun _ _ _ h => h) (Or.inl ⟨by rfl, ?_⟩) ?_ ?_
                      rotate_left
                      · intro w'
                        go_simp
                        with_reducible rfl
                      rotate_left
                      · simp only [Act.put, List.setIfInBounds_toArray, List.set_cons_zero, List.set_cons_succ, i64_w, i32_w]
                        rfl
                      refine pure_ (i := 4) (N := some 44) (v := ?_) (a' := ?_) #[true, true, true, true, true, false, false, false, false, false, false, false, false, false, false, false, false, false, false] rfl rfl (any_of HT_.out (by kernel_rfl)) (fun _ _ _ h => h) (Or.inl ⟨by rfl, ?_⟩) ?_ ?_
                      rotate_left
                      · intro w'
                        go_simp
                        with_reducible rfl
                      rotate_left
                      · simp only [Act.put, List.setIfInBounds_toArray, List.set_cons_zero, List.set_cons_succ, i64_w, i32_w]
                        rfl
                      refine pure_ (i := 5) (N := some 45) (v := ?_) (a' := ?_) #[true, true, true, true, true, true, false, false, false, false, false, false, false, false, false, false, false, false, false] rfl rfl (any_of HT_.out (by kernel_rfl)) (fun _ _ _ h => h) (Or.inl ⟨by rfl, ?_⟩) ?_ ?_
                      rotate_left
                      · intro w'
                        go_simp
                        with_reducible rfl
                      rotate_left
                      · simp only [Act.put, List.setIfInBounds_toArray, List.set_cons_zero, List.set_cons_succ, i64_w, i32_w]
                        rfl
                      refine pure_ (i := 6) (N := some 46) (v := ?_) (a' := ?_) #[true, true, true, true, true, true, true, false, false, false, false, false, false, false, false, false, false, false, false] rfl rfl (any_of HT_.out (by kernel_rfl)) (fun _ _ _ h => h) (Or.inl ⟨by rfl, ?_⟩) ?_ ?_
                      rotate_left
                      · intro w'
                        go_simp
                        with_reducible rfl
                      rotate_left
                      · simp only [Act.put, List.setIfInBounds_toArray, List.set_cons_zero, List.set_cons_succ, i64_w, i32_w]
                        rfl
                      refine pure_ (i := 7) (N := some 47) (v := ?_) (a' := ?_) #[true, true, true, true, true, true, true, true, false, false, false, false, false, false, false, false, false, false, false] rfl rfl (any_of HT_.out (by kernel_rfl)) (fun _ _ _ h => h) (Or.inl ⟨by rfl, ?_⟩) ?_ ?_
                      rotate_left
                      · intro w'
                        go_simp
                        with_reducible rfl
                      rotate_left
                      · simp only [Act.put, List.setIfInBounds_toArray, List.set_cons_zero, List.set_cons_succ, i64_w, i32_w]
                        rfl
                      refine pure_ (i := 8) (N := some 48) (v := ?_) (a' := ?_) #[true, true, true, true, true, true, true, true, true, false, false, false, false, false, false, false, false, false, false] rfl rfl (any_of HT_.out (by kernel_rfl)) (fun _ _ _ h => h) (Or.inl ⟨by rfl, ?_⟩) ?_ ?_
                      rotate_left
                      · intro w'
                        go_simp
                        with_reducible rfl
                      rotate_left
                      · simp only [Act.put, List.setIfInBounds_toArray, List.set_cons_zero, List.set_cons_succ, i64_w, i32_w]
                        rfl
                      refine pure_ (i := 9) (N := some 49) (v := ?_) (a' := ?_) #[true, true, true, true, true, true, true, true, true, true, false, false, false, false, false, false, false, false, false] rfl rfl (any_of HT_.out (by kernel_rfl)) (fun _ _ _ h => h) (Or.inl ⟨by rfl, ?_⟩) ?_ ?_
                      rotate_left
                      · intro w'
                        go_simp
                        with_reducible rfl
                      rotate_left
                      · simp only [Act.put, List.setIfInBounds_toArray, List.set_cons_zero, List.set_cons_succ, i64_w, i32_w]
                        rfl
                      refine pure_ (i := 10) (N := some 50) (v := ?_) (a' := ?_) #[true, true, true, true, true, true, true, true, true, true, true, false, false, false, false, false, false, false, false] rfl rfl (any_of HT_.out (by kernel_rfl)) (fun _ _ _ h => h) (Or.inl ⟨by rfl, ?_⟩) ?_ ?_
                      rotate_left
                      · intro w'
                        go_simp
                        with_reducible rfl
                      rotate_left
                      · simp only [Act.put, List.setIfInBounds_toArray, List.set_cons_zero, List.set_cons_succ, i64_w, i32_w]
                        rfl
                      refine pure_ (i := 11) (N := some 51) (v := ?_) (a' := ?_) #[true, true, true, true, true, true, true, true, true, true, true, true, false, false, false, false, false, false, false] rfl rfl (any_of HT_.out (by kernel_rfl)) (fun _ _ _ h => h) (Or.inl ⟨by rfl, ?_⟩) ?_ ?_
                      rotate_left
                      · intro w'
                        go_simp
                        with_reducible rfl
                      rotate_left
                      · simp only [Act.put, List.setIfInBounds_toArray, List.set_cons_zero, List.set_cons_succ, i64_w, i32_w]
                        rfl
                      refine pure_ (i := 12) (N := some 52) (v := ?_) (a' := ?_) #[true, true, true, true, true, true, true, true, true, true, true, true, true, false, false, false, false, false, false] rfl rfl (any_of HT_.out (by kernel_rfl)) (fun _ _ _ h => h) (Or.inl ⟨by rfl, ?_⟩) ?_ ?_
                      rotate_left
                      · intro w'
                        go_simp
                        with_reducible rfl
                      rotate_left
                      · simp only [Act.put, List.setIfInBounds_toArray, List.set_cons_zero, List.set_cons_succ, i64_w, i32_w]
                        rfl
                      refine pure_ (i := 13) (N := some 53) (v := ?_) (a' := ?_) #[true, true, true, true, true, true, true, true, true, true, true, true, true, true, false, false, false, false, false] rfl rfl (any_of HT_.out (by kernel_rfl)) (fun _ _ _ h => h) (Or.inl ⟨by rfl, ?_⟩) ?_ ?_
                      rotate_left
                      · intro w'
                        go_simp
                        with_reducible rfl
                      rotate_left
                      · simp only [Act.put, List.setIfInBounds_toArray, List.set_cons_zero, List.set_cons_succ, i64_w, i32_w]
                        rfl
                      refine one_ (i := 14) (N := some 54) #[true, true, true, true, true, true, true, true, true, true, true, true, true, true, true, false, false, false, false] rfl rfl (one_of HT_.out (by kernel_rfl)) (by decide) (fun K hK => ?_)
                      refine Kd.R_make_step (Kd.int .u8) _ 5 (by rfl) (N := 54) rfl 71 _ _ rfl ji22 rfl rfl Try.underlying71 (.int .u8 0) 1 info5 rfl (by decide) (by omega) 0 (ok := fun _ => True) (okp := fun _ => True) rfl (fun _ hk => hk) trivial (of_decide_eq_true (by first | (with_reducible assumption) | assumption)) (Nat.le_trans (Nat.mul_le_mul_right _ (of_decide_eq_true (by first | (with_reducible assumption) | assumption) : ji22.toNat ≤ 281474976710656)) (by omega)) (Below.refl _ _) (Nat.le_refl _) ?_
                      intro v123 w31 ho32 hb hg_ hnew_
                      clear hg_ hnew_
                      (first | rw [← Ny122.out] at ho32 | (simp only [Int.reduceToNat] at ho32; rw [← Ny122.out] at ho32))
                      have n0_ := Aside0.mk (Kd.R_lower ho32 (below_size (by repeat (first | (with_reducible first | exact HB.out | apply below_alloc | apply pw_below_drewN | apply below_drew1) | exact HB.out))))
                      have n1_ := Aside0.mk (below_step (by repeat (first | (with_reducible first | exact HB.out | apply below_alloc | apply pw_below_drewN | apply below_drew1) | exact HB.out)) hb)
                      clear HB
                      have HO124 := n0_
                      have HB := n1_
                      clear n0_ n1_
                      clear hb ho32
                      refine hK.out _ _ trivial (fun hHeld => ?_)
                      clear hK K
                      refine norm_ (a' := ?_) ?_ ?_
                      rotate_left
                      · show Act.put _ (some 54) _ = _
                        simp only [Act.put, List.setIfInBounds_toArray, List.set_cons_zero, List.set_cons_succ, i64_w, i32_w]
                        rfl
                      refine one_ (i := 15) (N := some 55) #[true, true, true, true, true, true, true, true, true, true, true, true, true, true, true, true, false, false, false] rfl rfl (one_of HT_.out (by kernel_rfl)) (by decide) (fun K hK => ?_)
                      have hcv33 := own_string (P := Try.prog) Try.underlying71 Try.underlying5 Try.underlying9 (Kd.own_of_R HO124.out)
                      refine value_ (w1 := ?_) (v := ?_) (by rfl) rfl ?_ ?_
                      rotate_left 2
                      · go_simp
                        constructor
                        · rfl
                        · rfl
                      clear hcv33
                      refine hK.out _ _ trivial (fun hHeld => ?_)
                      clear hK K
                      refine norm_ (a' := ?_) ?_ ?_
                      rotate_left
                      · show Act.put _ (some 55) _ = _
                        simp only [Act.put, List.setIfInBounds_toArray, List.set_cons_zero, List.set_cons_succ, i64_w, i32_w]
                        rfl
                      refine pure_ (i := 16) (N := some 56) (v := ?_) (a' := ?_) #[true, true, true, true, true, true, true, true, true, true, true, true, true, true, true, true, true, false, false] rfl rfl (any_of HT_.out (by kernel_rfl)) (fun _ _ _ h => h) (Or.inl ⟨by rfl, ?_⟩) ?_ ?_
                      rotate_left
                      · intro w'
                        go_simp
                        with_reducible rfl
                      rotate_left
                      · simp only [Act.put, List.setIfInBounds_toArray, List.set_cons_zero, List.set_cons_succ, i64_w, i32_w]
                        rfl
                      refine pure_ (i := 17) (N := some 57) (v := ?_) (a' := ?_) #[true, true, true, true, true, true, true, true, true, true, true, true, true, true, true, true, true, true, false] rfl rfl (any_of HT_.out (by kernel_rfl)) (fun _ _ _ h => h) (Or.inl ⟨by rfl, ?_⟩) ?_ ?_
                      rotate_left
                      · intro w'
                        go_simp
                        with_reducible rfl
                      rotate_left
                      · simp only [Act.put, List.setIfInBounds_toArray, List.set_cons_zero, List.set_cons_succ, i64_w, i32_w]
                        rfl
                      refine pure_ (i := 18) (N := some 58) (v := ?_) (a' := ?_) #[true, true, true, true, true, true, true, true, true, true, true, true, true, true, true, true, true, true, true] rfl rfl (any_of HT_.out (by kernel_rfl)) (fun _ _ _ h => h) (Or.inl ⟨by rfl, ?_⟩) ?_ ?_
                      rotate_left
                      · intro w'
                        go_simp
                        with_reducible rfl
                      rotate_left
                      · simp only [Act.put, List.setIfInBounds_toArray, List.set_cons_zero, List.set_cons_succ, i64_w, i32_w]
                        rfl
                      refine done_ (done_of HT_.out (by kernel_rfl)) ?_
                      try go_wp2
                      go_ret2
                      exact ⟨by first | rfl | (simp [errW_none, errW_some] <;> rfl) | (simp only [← hji19, ← hji22]; first | rfl | (simp [errW_none, errW_some] <;> rfl)) | (simp [*, errW_none, errW_some] <;> rfl), by repeat (first | (with_reducible first | exact HB.out | apply below_alloc | apply pw_below_drewN | apply below_drew1) | exact HB.out)⟩
                    · rw [if_neg c26] at H
                      have c26b0 : ((t114.extract 0 ((ji19) : Int).toNat).toList == (t120 ++ (strOfNums y122)).toList) = false := beq_eq_false_iff_ne.mpr c26
                      have c26b1 : ((t114.extract 0 ((ji19) : Int).toNat).toList != (t120 ++ (strOfNums y122)).toList) = true := bne_iff_ne.mpr c26
                      simp only [Option.some.injEq, Prod.mk.injEq] at H
                      obtain ⟨rfl, rfl⟩ := H
                      go_enter Try.func55, Try.ntmps55
                      try go_wp2_with (first | ((with_reducible refine gate_callee (f := 64) rfl ?_); refine goesL_ (some 19) rfl rfl Try.func64 (by kernel_rfl) rfl #[.slice A0 l0.length c0, .int .i64 a1, .int .i64 a2] rfl (by (try simp only [List.map_toArray, List.map_cons, List.map_nil]); first | done | rfl | (simp only [List.length_drop, List.length_take]; rfl)) ?_; (with_reducible refine (redo_round.calls _ _ l0 a1 a2 t114 _ ?side1 ?side2 A5.out).mono ?_); (case side1 => repeat (first | exact HR0.out | (with_reducible refine Kd.C_alloc ?_ _) | (with_reducible refine Kd.C_drewN ?_ _) | (with_reducible refine Kd.C_drew ?_))); (case side2 => exact HC0.out); rintro e w34 ⟨rfl, hb⟩; refine ⟨_, rfl, ?_⟩; have n0_ := Aside0.mk (below_step (by repeat (first | (with_reducible first | exact HB.out | apply below_alloc | apply pw_below_drewN | apply below_drew1) | exact HB.out)) hb); clear HB; have HB := n0_; clear n0_; (try clear hb); (try clear hb2); (try clear hk); (try clear hi)) | ((with_reducible refine gate_callee (f := 35) rfl ?_); refine goesL_ (some 22) rfl rfl Try.func35 (by kernel_rfl) rfl #[.int .u64 a3] rfl (by (try simp only [List.map_toArray, List.map_cons, List.map_nil]); first | done | rfl | (simp only [List.length_drop, List.length_take]; rfl)) ?_; (with_reducible refine (redo_number.calls k a3 t115 _ A6.out).mono ?_); rintro e w35 ⟨rfl, hb⟩; refine ⟨_, rfl, ?_⟩; have n0_ := Aside0.mk (below_step (by repeat (first | (with_reducible first | exact HB.out | apply below_alloc | apply pw_below_drewN | apply below_drew1) | exact HB.out)) hb); clear HB; have HB := n0_; clear n0_; (try clear hb); (try clear hb2); (try clear hk); (try clear hi)) | ((with_reducible refine gate_callee (f := 65) rfl ?_); refine goesL_ (some 23) rfl rfl Try.func65 (by kernel_rfl) rfl #[.string t114, .string t115] rfl (by (try simp only [List.map_toArray, List.map_cons, List.map_nil]); first | done | rfl | (simp only [List.length_drop, List.length_take]; rfl)) ?_; (with_reducible refine (strings_HasPrefix.calls t114 t115 true _ A7.out).mono ?_); rintro e w' ⟨rfl, ⟨nd, rfl⟩⟩; refine ⟨_, rfl, ?_⟩) | ((with_reducible refine gate_callee (f := 66) rfl ?_); refine goesL_ (some 28) rfl rfl Try.func66 (by kernel_rfl) rfl #[.string (t114.extract 8 t114.size), .int .i64 4096] rfl (by (try simp only [List.map_toArray, List.map_cons, List.map_nil]); first | done | rfl | (simp only [List.length_drop, List.length_take]; rfl)) ?_; (with_reducible refine (octet_TakeText.calls (t114.extract 8 t114.size) 4096 t117 t118 t119 _ A10.out).mono ?_); rintro e w' ⟨rfl, ⟨nd, rfl⟩⟩; refine ⟨_, rfl, ?_⟩) | ((with_reducible refine gate_callee (f := 15) rfl ?_); refine goesL_ (some 36) rfl rfl Try.func15 (by kernel_rfl) rfl #[.int .u64 a3, .string t117] rfl (by (try simp only [List.map_toArray, List.map_cons, List.map_nil]); first | done | rfl | (simp only [List.length_drop, List.length_take]; rfl)) ?_; (with_reducible refine (redo_Record.calls k a3 t117 t120 _ A12.out).mono ?_); rintro e w36 ⟨rfl, hb⟩; refine ⟨_, rfl, ?_⟩; have n0_ := Aside0.mk (below_step (by repeat (first | (with_reducible first | exact HB.out | apply below_alloc | apply pw_below_drewN | apply below_drew1) | exact HB.out)) hb); clear HB; have HB := n0_; clear n0_; (try clear hb); (try clear hb2); (try clear hk); (try clear hi)) | ((with_reducible refine gate_callee (f := 33) rfl ?_); refine goesL_ (some 39) rfl rfl Try.func33 (by kernel_rfl) rfl #[.int .i64 (t120.size : Int)] rfl (by (try simp only [List.map_toArray, List.map_cons, List.map_nil]); first | done | rfl | (simp only [List.length_drop, List.length_take]; rfl)) ?_; (with_reducible refine (redo_sectors.calls (t120.size : Int) t121 _ A13.out).mono ?_); rintro e w' ⟨rfl, ⟨nd, rfl⟩⟩; refine ⟨_, rfl, ?_⟩))
                      (try (rw [drewN_self w36]; generalize hq_ : World.drewN w36 _ = w36; have n0_ : Aside0 (Below w.heap.size w w36) := ⟨by rw [← hq_]; exact (by repeat (first | (with_reducible first | exact HB.out | apply below_alloc | apply pw_below_drewN | apply below_drew1) | exact HB.out))⟩; clear HB hq_; have HB := n0_; clear n0_))
                      have n0_ := Aside0.mk (below_drew1 HB.out)
                      clear HB
                      have HB := n0_
                      clear n0_
                      refine start_ (n := 19) (S := fun w' => True) (ds := []) #[false, false, false, false, false, false, false, false, false, false, false, false, false, false, false, false, false, false, false] (by kernel_rfl) rfl rfl trivial (fun hHeld => ?_); refine with_tabW redo_stands.tab9 redo_stands.bits9 (fun HT_ HW_ => ?_)
                      generalize w36.drew = w37 at HB hHeld ⊢
                      refine pure_ (i := 0) (N := some 40) (v := ?_) (a' := ?_) #[true, false, false, false, false, false, false, false, false, false, false, false, false, false, false, false, false, false, false] rfl rfl (any_of HT_.out (by kernel_rfl)) (fun _ _ _ h => h) (Or.inl ⟨by rfl, ?_⟩) ?_ ?_
                      rotate_left
                      · intro w'
                        go_simp
                        with_reducible rfl
                      rotate_left
                      · simp only [Act.put, List.setIfInBounds_toArray, List.set_cons_zero, List.set_cons_succ, i64_w, i32_w]
                        rfl
                      refine pure_ (i := 1) (N := some 41) (v := ?_) (a' := ?_) #[true, true, false, false, false, false, false, false, false, false, false, false, false, false, false, false, false, false, false] rfl rfl (any_of HT_.out (by kernel_rfl)) (fun _ _ _ h => h) (Or.inl ⟨by rfl, ?_⟩) ?_ ?_
                      rotate_left
                      · intro w'
                        go_simp
                        with_reducible rfl
                      rotate_left
                      · simp only [Act.put, List.setIfInBounds_toArray, List.set_cons_zero, List.set_cons_succ, i64_w, i32_w]
                        rfl
                      refine pure_ (i := 2) (N := some 42) (v := ?_) (a' := ?_) #[true, true, true, false, false, false, false, false, false, false, false, false, false, false, false, false, false, false, false] rfl rfl (any_of HT_.out (by kernel_rfl)) (fun _ _ _ h => h) (Or.inl ⟨by rfl, ?_⟩) ?_ ?_
                      rotate_left
                      · intro w'
                        go_simp
                        with_reducible rfl
                      rotate_left
                      · simp only [Act.put, List.setIfInBounds_toArray, List.set_cons_zero, List.set_cons_succ, i64_w, i32_w]
                        rfl
                      refine pure_ (i := 3) (N := some 43) (v := ?_) (a' := ?_) #[true, true, true, true, false, false, false, false, false, false, false, false, false, false, false, false, false, false, false] rfl rfl (any_of HT_.out (by kernel_rfl)) (fun _ _ _ h => h) (Or.inl ⟨by rfl, ?_⟩) ?_ ?_
                      rotate_left
                      · intro w'
                        go_simp
                        with_reducible rfl
                      rotate_left
                      · simp only [Act.put, List.setIfInBounds_toArray, List.set_cons_zero, List.set_cons_succ, i64_w, i32_w]
                        rfl
                      refine pure_ (i := 4) (N := some 44) (v := ?_) (a' := ?_) #[true, true, true, true, true, false, false, false, false, false, false, false, false, false, false, false, false, false, false] rfl rfl (any_of HT_.out (by kernel_rfl)) (fun _ _ _ h => h) (Or.inl ⟨by rfl, ?_⟩) ?_ ?_
                      rotate_left
                      · intro w'
                        go_simp
                        with_reducible rfl
                      rotate_left
                      · simp only [Act.put, List.setIfInBounds_toArray, List.set_cons_zero, List.set_cons_succ, i64_w, i32_w]
                        rfl
                      refine pure_ (i := 5) (N := some 45) (v := ?_) (a' := ?_) #[true, true, true, true, true, true, false, false, false, false, false, false, false, false, false, false, false, false, false] rfl rfl (any_of HT_.out (by kernel_rfl)) (fun _ _ _ h => h) (Or.inl ⟨by rfl, ?_⟩) ?_ ?_
                      rotate_left
                      · intro w'
                        go_simp
                        with_reducible rfl
                      rotate_left
                      · simp only [Act.put, List.setIfInBounds_toArray, List.set_cons_zero, List.set_cons_succ, i64_w, i32_w]
                        rfl
                      refine pure_ (i := 6) (N := some 46) (v := ?_) (a' := ?_) #[true, true, true, true, true, true, true, false, false, false, false, false, false, false, false, false, false, false, false] rfl rfl (any_of HT_.out (by kernel_rfl)) (fun _ _ _ h => h) (Or.inl ⟨by rfl, ?_⟩) ?_ ?_
                      rotate_left
                      · intro w'
                        go_simp
                        with_reducible rfl
                      rotate_left
                      · simp only [Act.put, List.setIfInBounds_toArray, List.set_cons_zero, List.set_cons_succ, i64_w, i32_w]
                        rfl
                      refine pure_ (i := 7) (N := some 47) (v := ?_) (a' := ?_) #[true, true, true, true, true, true, true, true, false, false, false, false, false, false, false, false, false, false, false] rfl rfl (any_of HT_.out (by kernel_rfl)) (fun _ _ _ h => h) (Or.inl ⟨by rfl, ?_⟩) ?_ ?_
                      rotate_left
                      · intro w'
                        go_simp
                        with_reducible rfl
                      rotate_left
                      · simp only [Act.put, List.setIfInBounds_toArray, List.set_cons_zero, List.set_cons_succ, i64_w, i32_w]
                        rfl
                      refine pure_ (i := 8) (N := some 48) (v := ?_) (a' := ?_) #[true, true, true, true, true, true, true, true, true, false, false, false, false, false, false, false, false, false, false] rfl rfl (any_of HT_.out (by kernel_rfl)) (fun _ _ _ h => h) (Or.inl ⟨by rfl, ?_⟩) ?_ ?_
                      rotate_left
                      · intro w'
                        go_simp
                        with_reducible rfl
                      rotate_left
                      · simp only [Act.put, List.setIfInBounds_toArray, List.set_cons_zero, List.set_cons_succ, i64_w, i32_w]
                        rfl
                      refine pure_ (i := 9) (N := some 49) (v := ?_) (a' := ?_) #[true, true, true, true, true, true, true, true, true, true, false, false, false, false, false, false, false, false, false] rfl rfl (any_of HT_.out (by kernel_rfl)) (fun _ _ _ h => h) (Or.inl ⟨by rfl, ?_⟩) ?_ ?_
                      rotate_left
                      · intro w'
                        go_simp
                        with_reducible rfl
                      rotate_left
                      · simp only [Act.put, List.setIfInBounds_toArray, List.set_cons_zero, List.set_cons_succ, i64_w, i32_w]
                        rfl
                      refine pure_ (i := 10) (N := some 50) (v := ?_) (a' := ?_) #[true, true, true, true, true, true, true, true, true, true, true, false, false, false, false, false, false, false, false] rfl rfl (any_of HT_.out (by kernel_rfl)) (fun _ _ _ h => h) (Or.inl ⟨by rfl, ?_⟩) ?_ ?_
                      rotate_left
                      · intro w'
                        go_simp
                        with_reducible rfl
                      rotate_left
                      · simp only [Act.put, List.setIfInBounds_toArray, List.set_cons_zero, List.set_cons_succ, i64_w, i32_w]
                        rfl
                      refine pure_ (i := 11) (N := some 51) (v := ?_) (a' := ?_) #[true, true, true, true, true, true, true, true, true, true, true, true, false, false, false, false, false, false, false] rfl rfl (any_of HT_.out (by kernel_rfl)) (fun _ _ _ h => h) (Or.inl ⟨by rfl, ?_⟩) ?_ ?_
                      rotate_left
                      · intro w'
                        go_simp
                        with_reducible rfl
                      rotate_left
                      · simp only [Act.put, List.setIfInBounds_toArray, List.set_cons_zero, List.set_cons_succ, i64_w, i32_w]
                        rfl
                      refine pure_ (i := 12) (N := some 52) (v := ?_) (a' := ?_) #[true, true, true, true, true, true, true, true, true, true, true, true, true, false, false, false, false, false, false] rfl rfl (any_of HT_.out (by kernel_rfl)) (fun _ _ _ h => h) (Or.inl ⟨by rfl, ?_⟩) ?_ ?_
                      rotate_left
                      · intro w'
                        go_simp
                        with_reducible rfl
                      rotate_left
                      · simp only [Act.put, List.setIfInBounds_toArray, List.set_cons_zero, List.set_cons_succ, i64_w, i32_w]
                        rfl
                      refine pure_ (i := 13) (N := some 53) (v := ?_) (a' := ?_) #[true, true, true, true, true, true, true, true, true, true, true, true, true, true, false, false, false, false, false] rfl rfl (any_of HT_.out (by kernel_rfl)) (fun _ _ _ h => h) (Or.inl ⟨by rfl, ?_⟩) ?_ ?_
                      rotate_left
                      · intro w'
                        go_simp
                        with_reducible rfl
                      rotate_left
                      · simp only [Act.put, List.setIfInBounds_toArray, List.set_cons_zero, List.set_cons_succ, i64_w, i32_w]
                        rfl
                      refine one_ (i := 14) (N := some 54) #[true, true, true, true, true, true, true, true, true, true, true, true, true, true, true, false, false, false, false] rfl rfl (one_of HT_.out (by kernel_rfl)) (by decide) (fun K hK => ?_)
                      refine Kd.R_make_step (Kd.int .u8) _ 5 (by rfl) (N := 54) rfl 71 _ _ rfl ji22 rfl rfl Try.underlying71 (.int .u8 0) 1 info5 rfl (by decide) (by omega) 0 (ok := fun _ => True) (okp := fun _ => True) rfl (fun _ hk => hk) trivial (of_decide_eq_true (by first | (with_reducible assumption) | assumption)) (Nat.le_trans (Nat.mul_le_mul_right _ (of_decide_eq_true (by first | (with_reducible assumption) | assumption) : ji22.toNat ≤ 281474976710656)) (by omega)) (Below.refl _ _) (Nat.le_refl _) ?_
                      intro v123 w38 ho39 hb hg_ hnew_
                      clear hg_ hnew_
                      (first | rw [← Ny122.out] at ho39 | (simp only [Int.reduceToNat] at ho39; rw [← Ny122.out] at ho39))
                      have n0_ := Aside0.mk (Kd.R_lower ho39 (below_size (by repeat (first | (with_reducible first | exact HB.out | apply below_alloc | apply pw_below_drewN | apply below_drew1) | exact HB.out))))
                      have n1_ := Aside0.mk (below_step (by repeat (first | (with_reducible first | exact HB.out | apply below_alloc | apply pw_below_drewN | apply below_drew1) | exact HB.out)) hb)
                      clear HB
                      have HO124 := n0_
                      have HB := n1_
                      clear n0_ n1_
                      clear hb ho39
                      refine hK.out _ _ trivial (fun hHeld => ?_)
                      clear hK K
                      refine norm_ (a' := ?_) ?_ ?_
                      rotate_left
                      · show Act.put _ (some 54) _ = _
                        simp only [Act.put, List.setIfInBounds_toArray, List.set_cons_zero, List.set_cons_succ, i64_w, i32_w]
                        rfl
                      refine one_ (i := 15) (N := some 55) #[true, true, true, true, true, true, true, true, true, true, true, true, true, true, true, true, false, false, false] rfl rfl (one_of HT_.out (by kernel_rfl)) (by decide) (fun K hK => ?_)
                      have hcv40 := own_string (P := Try.prog) Try.underlying71 Try.underlying5 Try.underlying9 (Kd.own_of_R HO124.out)
                      refine value_ (w1 := ?_) (v := ?_) (by rfl) rfl ?_ ?_
                      rotate_left 2
                      · go_simp
                        constructor
                        · rfl
                        · rfl
                      clear hcv40
                      refine hK.out _ _ trivial (fun hHeld => ?_)
                      clear hK K
                      refine norm_ (a' := ?_) ?_ ?_
                      rotate_left
                      · show Act.put _ (some 55) _ = _
                        simp only [Act.put, List.setIfInBounds_toArray, List.set_cons_zero, List.set_cons_succ, i64_w, i32_w]
                        rfl
                      refine pure_ (i := 16) (N := some 56) (v := ?_) (a' := ?_) #[true, true, true, true, true, true, true, true, true, true, true, true, true, true, true, true, true, false, false] rfl rfl (any_of HT_.out (by kernel_rfl)) (fun _ _ _ h => h) (Or.inl ⟨by rfl, ?_⟩) ?_ ?_
                      rotate_left
                      · intro w'
                        go_simp
                        with_reducible rfl
                      rotate_left
                      · simp only [Act.put, List.setIfInBounds_toArray, List.set_cons_zero, List.set_cons_succ, i64_w, i32_w]
                        rfl
                      refine pure_ (i := 17) (N := some 57) (v := ?_) (a' := ?_) #[true, true, true, true, true, true, true, true, true, true, true, true, true, true, true, true, true, true, false] rfl rfl (any_of HT_.out (by kernel_rfl)) (fun _ _ _ h => h) (Or.inl ⟨by rfl, ?_⟩) ?_ ?_
                      rotate_left
                      · intro w'
                        go_simp
                        with_reducible rfl
                      rotate_left
                      · simp only [Act.put, List.setIfInBounds_toArray, List.set_cons_zero, List.set_cons_succ, i64_w, i32_w]
                        rfl
                      refine pure_ (i := 18) (N := some 58) (v := ?_) (a' := ?_) #[true, true, true, true, true, true, true, true, true, true, true, true, true, true, true, true, true, true, true] rfl rfl (any_of HT_.out (by kernel_rfl)) (fun _ _ _ h => h) (Or.inl ⟨by rfl, ?_⟩) ?_ ?_
                      rotate_left
                      · intro w'
                        go_simp
                        with_reducible rfl
                      rotate_left
                      · simp only [Act.put, List.setIfInBounds_toArray, List.set_cons_zero, List.set_cons_succ, i64_w, i32_w]
                        rfl
                      refine done_ (done_of HT_.out (by kernel_rfl)) ?_
                      try go_wp2
                      go_ret2
                      exact ⟨by first | rfl | (simp [errW_none, errW_some] <;> rfl) | (simp only [← hji19, ← hji22]; first | rfl | (simp [errW_none, errW_some] <;> rfl)) | (simp [*, errW_none, errW_some] <;> rfl), by repeat (first | (with_reducible first | exact HB.out | apply below_alloc | apply pw_below_drewN | apply below_drew1) | exact HB.out)⟩
                  · rw [if_neg c25] at H
                    exact absurd H (by simp)
                · rw [if_neg c24] at H
                  exact absurd H (by simp)
              · rw [if_neg c23] at H
                exact absurd H (by simp)
            · rw [if_neg c21] at H
              exact absurd H (by simp)
          · rw [if_neg c20] at H
            exact absurd H (by simp)
      · rw [if_neg c11] at H
        have c11b0 : (t119 == 0) = false := beq_eq_false_iff_ne.mpr c11
        have c11b1 : (t119 != 0) = true := bne_iff_ne.mpr c11
        simp only [Option.some.injEq, Prod.mk.injEq] at H
        obtain ⟨rfl, rfl⟩ := H
        go_enter Try.func55, Try.ntmps55
        go_wp2_with (first | ((with_reducible refine gate_callee (f := 64) rfl ?_); refine goesL_ (some 19) rfl rfl Try.func64 (by kernel_rfl) rfl #[.slice A0 l0.length c0, .int .i64 a1, .int .i64 a2] rfl (by (try simp only [List.map_toArray, List.map_cons, List.map_nil]); first | done | rfl | (simp only [List.length_drop, List.length_take]; rfl)) ?_; (with_reducible refine (redo_round.calls _ _ l0 a1 a2 t114 _ ?side1 ?side2 A5.out).mono ?_); (case side1 => repeat (first | exact HR0.out | (with_reducible refine Kd.C_alloc ?_ _) | (with_reducible refine Kd.C_drewN ?_ _) | (with_reducible refine Kd.C_drew ?_))); (case side2 => exact HC0.out); rintro e w41 ⟨rfl, hb⟩; refine ⟨_, rfl, ?_⟩; have n0_ := Aside0.mk (below_step (by repeat (first | (with_reducible first | exact HB.out | apply below_alloc | apply pw_below_drewN | apply below_drew1) | exact HB.out)) hb); clear HB; have HB := n0_; clear n0_; (try clear hb); (try clear hb2); (try clear hk); (try clear hi)) | ((with_reducible refine gate_callee (f := 35) rfl ?_); refine goesL_ (some 22) rfl rfl Try.func35 (by kernel_rfl) rfl #[.int .u64 a3] rfl (by (try simp only [List.map_toArray, List.map_cons, List.map_nil]); first | done | rfl | (simp only [List.length_drop, List.length_take]; rfl)) ?_; (with_reducible refine (redo_number.calls k a3 t115 _ A6.out).mono ?_); rintro e w42 ⟨rfl, hb⟩; refine ⟨_, rfl, ?_⟩; have n0_ := Aside0.mk (below_step (by repeat (first | (with_reducible first | exact HB.out | apply below_alloc | apply pw_below_drewN | apply below_drew1) | exact HB.out)) hb); clear HB; have HB := n0_; clear n0_; (try clear hb); (try clear hb2); (try clear hk); (try clear hi)) | ((with_reducible refine gate_callee (f := 65) rfl ?_); refine goesL_ (some 23) rfl rfl Try.func65 (by kernel_rfl) rfl #[.string t114, .string t115] rfl (by (try simp only [List.map_toArray, List.map_cons, List.map_nil]); first | done | rfl | (simp only [List.length_drop, List.length_take]; rfl)) ?_; (with_reducible refine (strings_HasPrefix.calls t114 t115 true _ A7.out).mono ?_); rintro e w' ⟨rfl, ⟨nd, rfl⟩⟩; refine ⟨_, rfl, ?_⟩) | ((with_reducible refine gate_callee (f := 66) rfl ?_); refine goesL_ (some 28) rfl rfl Try.func66 (by kernel_rfl) rfl #[.string (t114.extract 8 t114.size), .int .i64 4096] rfl (by (try simp only [List.map_toArray, List.map_cons, List.map_nil]); first | done | rfl | (simp only [List.length_drop, List.length_take]; rfl)) ?_; (with_reducible refine (octet_TakeText.calls (t114.extract 8 t114.size) 4096 t117 t118 t119 _ A10.out).mono ?_); rintro e w' ⟨rfl, ⟨nd, rfl⟩⟩; refine ⟨_, rfl, ?_⟩))
        go_ret2
        exact ⟨by first | rfl | (simp [errW_none, errW_some] <;> rfl) | (simp [*, errW_none, errW_some] <;> rfl), by repeat (first | (with_reducible first | exact HB.out | apply below_alloc | apply pw_below_drewN | apply below_drew1) | exact HB.out)⟩
    · rw [if_neg c9] at H
      exact absurd H (by simp)
  · replace c8 := Bool.eq_false_iff.mpr c8
    subst c8
    have H1 : (some ((⟨#[]⟩ : ByteArray), 0)) = some (r1, r2) := by rw [if_neg (show ¬ (false = true) by decide)] at H; exact H
    clear H
    have H := H1
    clear H1
    simp only [Option.some.injEq, Prod.mk.injEq] at H
    obtain ⟨rfl, rfl⟩ := H
    go_enter Try.func55, Try.ntmps55
    go_wp2_with (first | ((with_reducible refine gate_callee (f := 64) rfl ?_); refine goesL_ (some 19) rfl rfl Try.func64 (by kernel_rfl) rfl #[.slice A0 l0.length c0, .int .i64 a1, .int .i64 a2] rfl (by (try simp only [List.map_toArray, List.map_cons, List.map_nil]); first | done | rfl | (simp only [List.length_drop, List.length_take]; rfl)) ?_; (with_reducible refine (redo_round.calls _ _ l0 a1 a2 t114 _ ?side1 ?side2 A5.out).mono ?_); (case side1 => repeat (first | exact HR0.out | (with_reducible refine Kd.C_alloc ?_ _) | (with_reducible refine Kd.C_drewN ?_ _) | (with_reducible refine Kd.C_drew ?_))); (case side2 => exact HC0.out); rintro e w43 ⟨rfl, hb⟩; refine ⟨_, rfl, ?_⟩; have n0_ := Aside0.mk (below_step (by repeat (first | (with_reducible first | exact HB.out | apply below_alloc | apply pw_below_drewN | apply below_drew1) | exact HB.out)) hb); clear HB; have HB := n0_; clear n0_; (try clear hb); (try clear hb2); (try clear hk); (try clear hi)) | ((with_reducible refine gate_callee (f := 35) rfl ?_); refine goesL_ (some 22) rfl rfl Try.func35 (by kernel_rfl) rfl #[.int .u64 a3] rfl (by (try simp only [List.map_toArray, List.map_cons, List.map_nil]); first | done | rfl | (simp only [List.length_drop, List.length_take]; rfl)) ?_; (with_reducible refine (redo_number.calls k a3 t115 _ A6.out).mono ?_); rintro e w44 ⟨rfl, hb⟩; refine ⟨_, rfl, ?_⟩; have n0_ := Aside0.mk (below_step (by repeat (first | (with_reducible first | exact HB.out | apply below_alloc | apply pw_below_drewN | apply below_drew1) | exact HB.out)) hb); clear HB; have HB := n0_; clear n0_; (try clear hb); (try clear hb2); (try clear hk); (try clear hi)) | ((with_reducible refine gate_callee (f := 65) rfl ?_); refine goesL_ (some 23) rfl rfl Try.func65 (by kernel_rfl) rfl #[.string t114, .string t115] rfl (by (try simp only [List.map_toArray, List.map_cons, List.map_nil]); first | done | rfl | (simp only [List.length_drop, List.length_take]; rfl)) ?_; (with_reducible refine (strings_HasPrefix.calls t114 t115 false _ A7.out).mono ?_); rintro e w' ⟨rfl, ⟨nd, rfl⟩⟩; refine ⟨_, rfl, ?_⟩))
    go_ret2
    exact ⟨by first | rfl | (simp [errW_none, errW_some] <;> rfl) | (simp [*, errW_none, errW_some] <;> rfl), by repeat (first | (with_reducible first | exact HB.out | apply below_alloc | apply pw_below_drewN | apply below_drew1) | exact HB.out)⟩

/-! ### redo_may: function 37 -/
/-! ### redo_Need: function 14 -/
def redo_Need.f (k : Nat) (a0 : ByteArray) : Option (Int) := (redo_Record.f k 0 a0).bind fun t127 => ((redo_sectors.f (t127.size : Int)).bind fun t128 => (some t128))
theorem redo_Need.mono : ∀ a0 k, LeO (redo_Need.f k a0) (redo_Need.f (k + 1) a0) := by
  intro a0 k
  unfold redo_Need.f
  repeat' first
      | (with_reducible exact redo_Record.mono _ _ _)
      | (with_reducible exact LeO.refl _)
      | (with_reducible exact LeO.none _)
      | (with_reducible refine LeO.ite ?_ ?_)
      | (with_reducible refine LeO.bind ?_ (fun _ => ?_))
      | exact redo_Record.mono _ _ _
      | exact LeO.none _
      | refine LeO.ite ?_ ?_
      | refine LeO.bind ?_ (fun _ => ?_)
set_option maxHeartbeats 8000000 in
set_option maxRecDepth 100000 in
theorem redo_Need.calls (k : Nat) (a0 : ByteArray) (r : Int) (w : World) (h : redo_Need.f k a0 = some r) :
    Calls Try.prog 14 #[.string a0] w fun e w' => e = .returned (.int .i64 r) ∧ Below w.heap.size w w' := by
  have HB := Aside0.mk (Below.refl w.heap.size w)
  have H : ((redo_Record.f k 0 a0).bind fun t127 => ((redo_sectors.f (t127.size : Int)).bind fun t128 => (some t128))) = some r := h
  clear h
  replace H := Option.bind_eq_some_iff.mp H
  obtain ⟨t127, A20, H⟩ := H
  replace H : ((redo_sectors.f (t127.size : Int)).bind fun t128 => (some t128)) = some r := H
  have A2 := Aside0.mk A20
  clear A20
  replace H := Option.bind_eq_some_iff.mp H
  obtain ⟨t128, A30, H⟩ := H
  replace H : (some t128) = some r := H
  have A3 := Aside0.mk A30
  clear A30
  obtain rfl := Option.some.inj H
  go_enter Try.func14, Try.ntmps14
  go_wp2_with (first | ((with_reducible refine gate_callee (f := 15) rfl ?_); refine goesL_ (some 4) rfl rfl Try.func15 (by kernel_rfl) rfl #[.int .u64 0, .string a0] rfl (by (try simp only [List.map_toArray, List.map_cons, List.map_nil]); first | done | rfl | (simp only [List.length_drop, List.length_take]; rfl)) ?_; (with_reducible refine (redo_Record.calls k 0 a0 t127 _ A2.out).mono ?_); rintro e w4 ⟨rfl, hb⟩; refine ⟨_, rfl, ?_⟩; have n0_ := Aside0.mk (below_step (by repeat (first | (with_reducible first | exact HB.out | apply below_alloc | apply pw_below_drewN | apply below_drew1) | exact HB.out)) hb); clear HB; have HB := n0_; clear n0_; (try clear hb); (try clear hb2); (try clear hk); (try clear hi)) | ((with_reducible refine gate_callee (f := 33) rfl ?_); refine goesL_ (some 6) rfl rfl Try.func33 (by kernel_rfl) rfl #[.int .i64 (t127.size : Int)] rfl (by (try simp only [List.map_toArray, List.map_cons, List.map_nil]); first | done | rfl | (simp only [List.length_drop, List.length_take]; rfl)) ?_; (with_reducible refine (redo_sectors.calls (t127.size : Int) t128 _ A3.out).mono ?_); rintro e w' ⟨rfl, ⟨nd, rfl⟩⟩; refine ⟨_, rfl, ?_⟩))
  go_ret
  exact ⟨by first | rfl | (simp [errW_none, errW_some] <;> rfl) | (simp [*, errW_none, errW_some] <;> rfl), by repeat (first | (with_reducible first | exact HB.out | apply below_alloc | apply pw_below_drewN | apply below_drew1) | exact HB.out)⟩

end Go.Proofs.Ytcbfnfggnocndaa.V
end

section
/- Layer 5, walked: each: the records from a place on, each handed to a function. -/
set_option linter.unusedVariables false
set_option linter.unusedSimpArgs false
namespace Go.Proofs.Ytcbfnfggnocndaa
open Go.RowKit Go.Shelf Go.Proofs.Ytcbfnfggnocndaa.Q Go.Proofs.YtcbfnfggnocndaaW.PrintWords Go.Proofs.YtcbfnfggnocndaaW.PrintLast Go.Proofs.YtcbfnfggnocndaaW.PrintMore Math

/-- The world is as it was below a block number, but for one block. -/
structure KeepE (B R : Nat) (w w' : World) : Prop where
  os : w'.os = w.os
  tape : w'.tape = w.tape
  output : w'.output = w.output
  size : w.heap.size ≤ w'.heap.size
  block : ∀ k, k < B → k ≠ R → w'.heap[k]? = w.heap[k]?
namespace KeepE
theorem refl (B R : Nat) (w : World) : KeepE B R w w := ⟨rfl, rfl, rfl, Nat.le_refl _, fun _ _ _ => rfl⟩
theorem trans {B R : Nat} {a b c : World} (h : KeepE B R a b) (k : KeepE B R b c) : KeepE B R a c :=
  ⟨k.os.trans h.os, k.tape.trans h.tape, k.output.trans h.output, Nat.le_trans h.size k.size, fun i hi hr => (k.block i hi hr).trans (h.block i hi hr)⟩
theorem below {B R : Nat} {W W' : World} (h : Below W.heap.size W W') (hB : B ≤ W.heap.size) : KeepE B R W W' := ⟨h.os, h.tape, h.output, h.size, fun k hk _ => h.block k (by omega)⟩
theorem low {B R C : Nat} {w w' : World} (h : KeepE B R w w') (hB : C ≤ B) (hR : C ≤ R) : Below C w w' := ⟨h.os, h.tape, h.output, h.size, fun k hk => h.block k (by omega) (by omega)⟩
end KeepE
/-- The records that are found, one by one. -/
def goP (st : Nat → Nat → Nat → ByteArray × Nat) (n at_ first most : Nat) : Nat → List ByteArray → Nat → List ByteArray × Nat
  | 0, acc, used => (acc, used)
  | f + 1, acc, used =>
    if acc.length = most ∨ used = n then (acc, used) else
    if (st ((at_ + used) % n) (n - used) ((first + acc.length) % 18446744073709551616)).2 = 0 then (acc, used) else
    goP st n at_ first most f (acc ++ [(st ((at_ + used) % n) (n - used) ((first + acc.length) % 18446744073709551616)).1]) (used + (st ((at_ + used) % n) (n - used) ((first + acc.length) % 18446744073709551616)).2)
def foundP (st : Nat → Nat → Nat → ByteArray × Nat) (n at_ first most : Nat) : List ByteArray × Nat := goP st n at_ first most (n + 1) [] 0
theorem u64_in {n : Nat} (h : n < 18446744073709551616) : IntKind.u64.wrap (n : Int) = (n : Int) := by
  simp only [IntKind.wrap, IntKind.signed, IntKind.bits]; simp; omega
theorem u64_add (a b : Nat) : IntKind.u64.wrap ((a : Int) + (b : Int)) = (((a + b) % 18446744073709551616 : Nat) : Int) := by
  simp only [IntKind.wrap, IntKind.signed, IntKind.bits]; simp
theorem nat_eq_f {a b : Nat} (h : a ≠ b) : ((a : Int) == (b : Int)) = false := beq_eq_false_iff_ne.2 (by omega)
theorem nat_eq_t {a b : Nat} (h : a = b) : ((a : Int) == (b : Int)) = true := beq_iff_eq.2 (by omega)
theorem nat_eq_fn {a b : Nat} (h : a ≠ b) : (a == b) = false := beq_eq_false_iff_ne.2 h
theorem nat_eq_tn {a b : Nat} (h : a = b) : (a == b) = true := beq_iff_eq.2 h
set_option maxHeartbeats 4000000 in
set_option maxRecDepth 1000000 in
theorem each_calls (A : Option Addr) (c : Nat) (l : List ByteArray) (at_ first most : Nat) (g : FuncId) (lb : Array Value) (st : Nat → Nat → Nat → ByteArray × Nat) (I : List ByteArray → World → Prop) (Rb : Nat) (w : World)
    (hr : RdS w A l) (hc : l.length ≤ c) (hA : ∀ ad, A = some ad → ad.block ≠ Rb) (hl : 1 ≤ l.length) (hln : l.length ≤ 10000) (hat : at_ < l.length) (hf : first < 18446744073709551616) (hm : most ≤ 9223372036854775807)
    (hst : ∀ a m n : Nat, a < l.length → m ≤ l.length → n < 18446744073709551616 → ∃ k, V.redo_stands.f k l a m n = some ((st a m n).1, ((st a m n).2 : Int)))
    (hle : ∀ a m n, (st a m n).2 ≤ m) (hI0 : I [] w) (hIb : ∀ acc W W', I acc W → Below W.heap.size W W' → I acc W')
    (hg : ∀ acc W s (m : Int), acc.length ≤ l.length → I acc W → w.heap.size ≤ W.heap.size → Calls Try.prog g (#[.string s, .int .i64 m] ++ lb) W fun e W' => e = .returned (.tuple #[]) ∧ I (acc ++ [s]) W' ∧ KeepE w.heap.size Rb W W')
    (hen : ∀ args W, (callFunc g args).run Try.prog W = .ok (.enter g args) W) :
    Calls Try.prog 38 #[.slice A l.length c, .int .i64 at_, .int .u64 first, .int .i64 most, .func (.func g) #[] lb] w fun e w' =>
      e = .returned (.tuple #[.int .i64 (foundP st l.length at_ first most).1.length, .int .i64 (foundP st l.length at_ first most).2]) ∧ I (foundP st l.length at_ first most).1 w' ∧ KeepE w.heap.size Rb w w' := by
  obtain ⟨F, hF⟩ : ∃ F, F = foundP st l.length at_ first most := ⟨_, rfl⟩
  rw [← hF]
  have HREL0 : Hid (∃ f, l.length - 0 < f ∧ F = goP st l.length at_ first most f [] 0) := Lib.hid ⟨l.length + 1, by omega, hF⟩
  have HR := Lib.hid hr; have HA := Lib.hid hA; have HST := Lib.hid hst; have HLE := Lib.hid hle; have HIB := Lib.hid hIb; have HG := Lib.hid hg; have HI0 := Lib.hid hI0
  clear hF hr hA hst hle hIb hg hI0
  go_enter Try.func38, Try.ntmps38
  go_wp2_with fail
  refine wp_scope_jumps 0 (fun a' W => ∃ (acc : List ByteArray) (used : Nat) (u14 u15 u16 u17 u18 u19 u20 u21 u22 u23 u24 u25 u26 u27 u28 u29 u30 u31 u32 u33 u34 u35 u36 u37 u38 u39 u40 u41 u42 u43 u44 u45 u46 u47 u48 u49 u50 u51 u52 u53 u54 u55 u56 u57 u58 : Value),
    a' = { tmps := #[.slice A l.length c, .int .i64 at_, .int .u64 first, .int .i64 most, .func (.func g) #[] lb, undef, undef, undef, undef, undef, .int .i64 0, .int .i64 0, .int .i64 acc.length, .int .i64 used, u14, u15, u16, u17, u18, u19, u20, u21, u22, u23, u24, u25, u26, u27, u28, u29, u30, u31, u32, u33, u34, u35, u36, u37, u38, u39, u40, u41, u42, u43, u44, u45, u46, u47, u48, u49, u50, u51, u52, u53, u54, u55, u56, u57, u58], defers := [] } ∧
    acc.length ≤ used ∧ used ≤ l.length ∧ Hid (∃ f, l.length - used < f ∧ F = goP st l.length at_ first most f acc used) ∧ Hid (I acc W) ∧ Hid (KeepE w.heap.size Rb w W))
    (fun a' _ => l.length - (intOf (a'.tmps.getD 13 undef)).toNat) rfl ?_ ?_
  · obtain ⟨f, hf1, hF⟩ := HREL0.out
    obtain ⟨f, rfl⟩ : ∃ j, f = j + 1 := ⟨f - 1, by omega⟩
    unfold goP at hF
    by_cases c1 : most = 0
    · rw [if_pos (.inl (by rw [c1]; rfl))] at hF
      have q1 : ((0 : Int) == (most : Int)) = true := beq_iff_eq.2 (by omega)
      have HF := Lib.hid hF
      clear hF hf1
      subst c1
      go_wp2_with fail
      go_step3
      go_wp2_with fail
      simp only [Exit.jump]
      go_ret2
      exact ⟨by rw [HF.out]; rfl, by rw [HF.out]; exact HI0.out, KeepE.refl _ _ _⟩
    · rw [if_neg (show ¬ (([] : List ByteArray).length = most ∨ 0 = l.length) from fun h => by rcases h with h | h; exact c1 h.symm; omega)] at hF
      have q1 : ((0 : Int) == (most : Int)) = false := beq_eq_false_iff_ne.2 (by omega)
      have q2 : ((0 : Int) == (l.length : Int)) = false := beq_eq_false_iff_ne.2 (by omega)
      rw [show (at_ + 0) % l.length = at_ by rw [Nat.add_zero]; exact Nat.mod_eq_of_lt hat, show l.length - 0 = l.length from rfl, show (first + ([] : List ByteArray).length) % 18446744073709551616 = first from Nat.mod_eq_of_lt hf] at hF
      obtain ⟨ks, hks⟩ := HST.out at_ l.length first hat (Nat.le_refl _) hf
      have hle := HLE.out at_ l.length first
      have hrem : Int.tmod (at_ : Int) (l.length : Int) = (at_ : Int) := by
        rw [show Int.tmod (at_ : Int) (l.length : Int) = ((at_ % l.length : Nat) : Int) from rfl, Nat.mod_eq_of_lt hat]
      have hu0 : IntKind.u64.wrap 0 = 0 := by decide
      have hu1 : IntKind.u64.wrap (first : Int) = (first : Int) := u64_in hf
      have hlz2 : ((l.length : Int) == 0) = false := beq_eq_false_iff_ne.2 (by omega)
      have hlz : ¬ ((l.length : Int) = 0) := by omega
      have hcal := V.redo_stands.calls ks A c l at_ l.length first _ _ w (c_of_rds HR.out (by omega)) hc hks
      obtain ⟨S, hS⟩ : ∃ S, S = (st at_ l.length first).1 := ⟨_, rfl⟩
      obtain ⟨m, hm0⟩ : ∃ m, m = (st at_ l.length first).2 := ⟨_, rfl⟩
      rw [← hS, ← hm0] at hcal
      rw [← hm0, ← hS] at hF
      rw [← hm0] at hle
      have HCAL := Lib.hid hcal
      clear hks hcal hS hm0
      by_cases c3 : m = 0
      · rw [if_pos c3] at hF
        have HF := Lib.hid hF
        clear hF hf1 hle
        subst c3
        go_wp2_with fail
        go_step3
        go_wp2_with fail
        refine HCAL.out.mono ?_
        rintro e w3 ⟨rfl, hb3⟩
        have HB3 := Lib.hid hb3
        clear hb3
        go_wp2_with fail
        simp only [Exit.jump]
        go_ret2
        exact ⟨by rw [HF.out]; rfl, by rw [HF.out]; exact HIB.out _ _ _ HI0.out HB3.out, KeepE.below HB3.out (Nat.le_refl _)⟩
      · rw [if_neg c3] at hF
        have HF := Lib.hid hF
        have hp : decide ((0 : Int) < (m : Int)) = true := decide_eq_true (by omega)
        have hpn : decide (0 < m) = true := decide_eq_true (by omega)
        clear hF
        go_wp2_with fail
        go_step3
        go_wp2_with fail
        refine HCAL.out.mono ?_
        rintro e w3 ⟨rfl, hb3⟩
        have HB3 := Lib.hid hb3
        have HG3 := Lib.hid (HG.out [] w3 S (m : Int) (Nat.zero_le _) (HIB.out _ _ _ HI0.out hb3) hb3.size)
        clear hb3
        go_wp2_with fail
        refine HG3.out.mono ?_
        rintro e w4 ⟨rfl, hi4, hk4⟩
        have HI4 := Lib.hid hi4; have HK4 := Lib.hid ((KeepE.below HB3.out (Nat.le_refl _)).trans hk4)
        clear hi4 hk4
        go_wp2_with fail
        go_step3
        refine ⟨rfl, [S], m, _, _, _, _, _, _, _, _, _, _, _, _, _, _, _, _, _, _, _, _, _, _, _, _, _, _, _, _, _, _, _, _, _, _, _, _, _, _, _, _, _, _, _, _, _, rfl, ?_, hle, Lib.hid ⟨f, by omega, ?_⟩, HI4, HK4⟩
        · show 1 ≤ m
          omega
        · have := HF.out
          rw [Nat.zero_add] at this
          exact this
  · rintro a' W ⟨acc, used, u14, u15, u16, u17, u18, u19, u20, u21, u22, u23, u24, u25, u26, u27, u28, u29, u30, u31, u32, u33, u34, u35, u36, u37, u38, u39, u40, u41, u42, u43, u44, u45, u46, u47, u48, u49, u50, u51, u52, u53, u54, u55, u56, u57, u58, rfl, hau, hul, HREL, HI, HK⟩
    obtain ⟨f, hf1, hF⟩ := HREL.out
    obtain ⟨f, rfl⟩ : ∃ j, f = j + 1 := ⟨f - 1, by omega⟩
    unfold goP at hF
    by_cases c1 : acc.length = most
    · rw [if_pos (.inl c1)] at hF
      have q1 := nat_eq_t c1; have q1n := nat_eq_tn c1
      have HF := Lib.hid hF
      clear hF hf1 c1
      go_wp2_with fail
      simp only [Exit.jump]
      go_ret2
      exact ⟨by rw [HF.out]; rfl, by rw [HF.out]; exact HI.out, HK.out⟩
    · have q1 := nat_eq_f c1; have q1n := nat_eq_fn c1
      by_cases c2 : used = l.length
      · rw [if_pos (.inr c2)] at hF
        have q2 := nat_eq_t c2; have q2n := nat_eq_tn c2
        have HF := Lib.hid hF
        clear hF hf1 c1 c2
        go_wp2_with fail
        simp only [Exit.jump]
        go_ret2
        exact ⟨by rw [HF.out]; rfl, by rw [HF.out]; exact HI.out, HK.out⟩
      · rw [if_neg (by omega)] at hF
        have q2 := nat_eq_f c2; have q2n := nat_eq_fn c2
        obtain ⟨a, ha⟩ : ∃ a, a = (at_ + used) % l.length := ⟨_, rfl⟩
        obtain ⟨n3, hn3⟩ : ∃ n3, n3 = (first + acc.length) % 18446744073709551616 := ⟨_, rfl⟩
        rw [← ha, ← hn3] at hF
        have hal : a < l.length := by rw [ha]; exact Nat.mod_lt _ (by omega)
        have hn3l : n3 < 18446744073709551616 := by rw [hn3]; exact Nat.mod_lt _ (by decide)
        obtain ⟨ks, hks⟩ := HST.out a (l.length - used) n3 hal (Nat.sub_le _ _) hn3l
        have hle := HLE.out a (l.length - used) n3
        have hrem : Int.tmod ((at_ : Int) + (used : Int)) (l.length : Int) = (a : Int) := by
          rw [show (at_ : Int) + (used : Int) = ((at_ + used : Nat) : Int) by omega, ha]; rfl
        have hu0 : IntKind.u64.wrap (acc.length : Int) = (acc.length : Int) := u64_in (by omega)
        have hu1 : IntKind.u64.wrap ((first : Int) + (acc.length : Int)) = (n3 : Int) := by rw [u64_add, hn3]
        have hlz2 : ((l.length : Int) == 0) = false := beq_eq_false_iff_ne.2 (by omega)
        have hlz : ¬ ((l.length : Int) = 0) := by omega
        have hrr : RdS W A l := HR.out.step HK.out.size fun ad h1 h2 => HK.out.block _ h2 (HA.out ad h1)
        have hcal := V.redo_stands.calls ks A c l a ((l.length - used : Nat) : Int) n3 _ _ W (c_of_rds hrr (by omega)) hc hks
        obtain ⟨S, hS⟩ : ∃ S, S = (st a (l.length - used) n3).1 := ⟨_, rfl⟩
        obtain ⟨m, hm0⟩ : ∃ m, m = (st a (l.length - used) n3).2 := ⟨_, rfl⟩
        rw [← hS, ← hm0, show ((l.length - used : Nat) : Int) = (l.length : Int) - (used : Int) by omega] at hcal
        rw [← hm0, ← hS] at hF
        rw [← hm0] at hle
        have HCAL := Lib.hid hcal
        have HQ1 := Lib.hid hu0; have HQ2 := Lib.hid hu1; have HQ3 := Lib.hid hrem
        clear hks hcal hS hm0 ha hn3 hrr hu0 hu1 hrem
        by_cases c3 : m = 0
        · rw [if_pos c3] at hF
          have HF := Lib.hid hF
          have hu0 := HQ1.out; have hu1 := HQ2.out; have hrem := HQ3.out
          clear hF hf1 hle
          subst c3
          go_wp2_with fail
          refine HCAL.out.mono ?_
          rintro e w3 ⟨rfl, hb3⟩
          have HB3 := Lib.hid hb3
          clear hb3
          go_wp2_with fail
          simp only [Exit.jump]
          go_ret2
          exact ⟨by rw [HF.out]; rfl, by rw [HF.out]; exact HIB.out _ _ _ HI.out HB3.out, HK.out.trans (KeepE.below HB3.out HK.out.size)⟩
        · rw [if_neg c3] at hF
          have HF := Lib.hid hF
          have hp : decide ((0 : Int) < (m : Int)) = true := decide_eq_true (by omega)
          have hpn : decide (0 < m) = true := decide_eq_true (by omega)
          have hu0 := HQ1.out; have hu1 := HQ2.out; have hrem := HQ3.out
          clear hF
          go_wp2_with fail
          refine HCAL.out.mono ?_
          rintro e w3 ⟨rfl, hb3⟩
          have HB3 := Lib.hid hb3
          have HG3 := Lib.hid (HG.out acc w3 S (m : Int) (Nat.le_trans hau hul) (HIB.out _ _ _ HI.out hb3) (Nat.le_trans HK.out.size hb3.size))
          clear hb3
          go_wp2_with fail
          refine HG3.out.mono ?_
          rintro e w4 ⟨rfl, hi4, hk4⟩
          have HI4 := Lib.hid hi4; have HK4 := Lib.hid ((HK.out.trans (KeepE.below HB3.out HK.out.size)).trans hk4)
          clear hi4 hk4 hu0 hu1 hrem
          go_wp2_with fail
          go_step3
          have e12 : (((acc ++ [S]).length : Nat) : Int) = (acc.length : Int) + 1 := by rw [List.length_append]; rfl
          have e13 : ((used + m : Nat) : Int) = (used : Int) + (m : Int) := by omega
          refine ⟨rfl, ⟨acc ++ [S], used + m, _, _, _, _, _, _, _, _, _, _, _, _, _, _, _, _, _, _, _, _, _, _, _, _, _, _, _, _, _, _, _, _, _, _, _, _, _, _, _, _, _, _, _, _, _, by rw [e12, e13], ?_, by omega, Lib.hid ⟨f, by omega, HF.out⟩, HI4, HK4⟩, ?_⟩
          · rw [List.length_append]
            show acc.length + 1 ≤ used + m
            omega
          · show l.length - ((used : Int) + (m : Int)).toNat < l.length - ((used : Int)).toNat
            omega
end Go.Proofs.Ytcbfnfggnocndaa
end

section
/- Layer 5, walked: Texts. -/
set_option linter.unusedVariables false
set_option linter.unusedSimpArgs false
namespace Go.Proofs.Ytcbfnfggnocndaa
open Go.RowKit Go.Shelf Go.Proofs.Ytcbfnfggnocndaa.Q Go.Proofs.YtcbfnfggnocndaaW.PrintWords Go.Proofs.YtcbfnfggnocndaaW.PrintLast Go.Proofs.YtcbfnfggnocndaaW.PrintMore Math

/-- A log's box. -/
structure BxL (w W : World) (at_ used : Int) (first many : Int) : Prop where
  l : W.heap[w.heap.size + 2]? = some (.cells #[.int .i64 at_, .int .i64 used, .int .u64 first, .int .i64 many] 30 (0, 0))
namespace BxL
variable {w W W' : World} {a u f m : Int}
theorem step (h : BxL w W a u f m) (hb : Below W.heap.size W W') : BxL w W' a u f m := ⟨(hb.block _ (blk_lt h.l)).trans h.l⟩
theorem l0 (h : BxL w W a u f m) : W.cell? ⟨w.heap.size + 2, 0, none⟩ = some (.int .i64 a) := by rw [blk_cell h.l]; rfl
theorem l1 (h : BxL w W a u f m) : W.cell? ⟨w.heap.size + 2, 1, none⟩ = some (.int .i64 u) := by rw [blk_cell h.l]; rfl
theorem l2 (h : BxL w W a u f m) : W.cell? ⟨w.heap.size + 2, 2, none⟩ = some (.int .u64 f) := by rw [blk_cell h.l]; rfl
theorem l3 (h : BxL w W a u f m) : W.cell? ⟨w.heap.size + 2, 3, none⟩ = some (.int .i64 m) := by rw [blk_cell h.l]; rfl
end BxL
theorem Bx2.keep {w W W' : World} {B R : Nat} {d0 d1 d2 : Value} {f m : Int} (h : Bx2 w W d0 d1 d2 f m) (hk : KeepE B R W W') (hB : w.heap.size + 1 < B) (hR : w.heap.size + 1 < R) : Bx2 w W' d0 d1 d2 f m :=
  ⟨(hk.block _ (by omega) (by omega)).trans h.d, (hk.block _ (by omega) (by omega)).trans h.r, h.b.trans (hk.low (by omega) (by omega))⟩
theorem BxL.keep {w W W' : World} {B R : Nat} {a u f m : Int} (h : BxL w W a u f m) (hk : KeepE B R W W') (hB : w.heap.size + 2 < B) (hR : w.heap.size + 2 < R) : BxL w W' a u f m := ⟨(hk.block _ hB (by omega)).trans h.l⟩
theorem info_str5 : (Try.prog.info? 9).map (fun i => (i.zero, i.size, i.bytes)) = some (some (.string ⟨#[]⟩), 1, 16) := by kernel_rfl
/-- What the collecting function has laid up: its variable, in a block of its own, holds an owned row. -/
structure Coll (B Rb : Nat) (acc : List ByteArray) (W : World) : Prop where
  v : ∃ v, W.heap[Rb]? = some (.cells #[v] 22 (0, 0)) ∧ W.ownsRow B 9 1 v acc.length (acc.map Value.string)
  lt : Rb < B
  le : B ≤ W.heap.size
theorem Coll.below {B Rb : Nat} {acc : List ByteArray} {W W' : World} (h : Coll B Rb acc W) (hb : Below W.heap.size W W') : Coll B Rb acc W' := by
  obtain ⟨⟨v, h1, h2⟩, h3, h4⟩ := h
  exact ⟨⟨v, (hb.block _ (blk_lt h1)).trans h1, pw_own_below h2 hb⟩, h3, Nat.le_trans h4 hb.size⟩
set_option maxHeartbeats 2000000 in
set_option maxRecDepth 1000000 in
theorem collect_calls (B Rb : Nat) (acc : List ByteArray) (W : World) (s : ByteArray) (m : Int) (h : Coll B Rb acc W) (hn : acc.length ≤ 1000000) :
    Calls Try.prog 45 (#[.string s, .int .i64 m] ++ #[.pointer (some ⟨Rb, 0, none⟩)]) W fun e W' => e = .returned (.tuple #[]) ∧ Coll B Rb (acc ++ [s]) W' ∧ KeepE B Rb W W' := by
  obtain ⟨i0, hi0, hz0, hz1, hz2⟩ := info_parts info_str5
  obtain ⟨⟨v, h1, h2⟩, hRb, hle⟩ := h
  have hc0 : W.cell? ⟨Rb, 0, none⟩ = some v := by rw [blk_cell h1]; rfl
  have hz := blk_lt h1
  have H1 := Lib.hid h1; have H2 := Lib.hid h2
  obtain ⟨xs, hxs⟩ : ∃ xs, xs = acc.map Value.string := ⟨_, rfl⟩
  rw [← hxs] at h2
  have HX := Lib.hid hxs; have HO := Lib.hid h2
  have hmx : xs ++ [.string s] = (acc ++ [s]).map Value.string := by rw [hxs, List.map_append]; rfl
  have HMX := Lib.hid hmx
  obtain ⟨n, hn0⟩ : ∃ n, n = acc.length := ⟨_, rfl⟩
  rw [← hn0] at HO hn
  have HN := Lib.hid hn0
  clear h1 h2 hxs hmx hn0
  show Calls Try.prog 45 #[.string s, .int .i64 m, .pointer (some ⟨Rb, 0, none⟩)] W _
  go_enter Try.func45, Try.ntmps45
  go_wp2_with (at_builtin; refine wpList_append_own _ rfl _ _ 22 rfl B 9 i0 _ 1 16 Try.underlying22 hi0 hz0 hz1 hz2 rfl (by decide) v n xs rfl (HO.out.alloc _) ⟨W.heap.size, 0, none⟩ 1 1 [.string s] rfl rfl (World.news_of_block (cs := #[.string s]) (t := 9) (fr := (0, 0)) (heap_alloc_new W _)) (by intro u hu; rw [List.mem_singleton.1 hu]; rfl) (by unfold maxLen; omega) (by omega) (by rw [World.size_alloc]; omega) ?_)
  intro v' w5 hown hgrow _
  obtain ⟨g4, c4, rfl⟩ := ownsRow_succ hown
  rw [HMX.out] at hown
  have hown1 := HO.out
  have hne : ∀ k, k < B → some k ≠ v.ownBlock := fun k hk e => by have := (hown1.lt k e.symm).1; omega
  have hb5 : One w5 Rb v 22 := by
    unfold One
    rw [hgrow.block Rb (by rw [World.size_alloc]; omega) (hne Rb hRb), Below.heap_alloc _ _ _ hz]
    exact H1.out
  have hc5 := hb5.cell
  have hf5 := hb5.free
  have HB5 := Lib.hid hb5; have HO5 := Lib.hid hown; have HG5 := Lib.hid hgrow; have HNE := Lib.hid hne
  clear hb5 hown hgrow hown1 hne hc0
  go_wp2_with fail
  go_end0
  refine ⟨rfl, ⟨⟨_, HB5.out.set, ?_⟩, hRb, ?_⟩, ?_⟩
  · rw [List.length_append, ← HN.out]
    exact own_far HO5.out hRb
  · have h1 := HG5.out.size
    rw [World.size_alloc] at h1
    have h2 : (w5.setCell ⟨Rb, 0, none⟩ (.slice (some ⟨g4, 0, none⟩) (n + 1) c4)).heap.size = w5.heap.size := by simp [World.setCell]
    rw [h2]; omega
  · have h1 := HG5.out.size
    rw [World.size_alloc] at h1
    have h2 : (w5.setCell ⟨Rb, 0, none⟩ (.slice (some ⟨g4, 0, none⟩) (n + 1) c4)).heap.size = w5.heap.size := by simp [World.setCell]
    refine ⟨HG5.out.os, HG5.out.tape, HG5.out.output, by rw [h2]; omega, fun k hk hr => ?_⟩
    rw [Below.heap_setCell _ _ _ _ (show k ≠ (⟨Rb, 0, none⟩ : Addr).block from hr), HG5.out.block k (by rw [World.size_alloc]; omega) (HNE.out k hk), Below.heap_alloc _ _ _ (by omega)]
end Go.Proofs.Ytcbfnfggnocndaa
end

section
/- Layer 5, plain: records, and what stands at a place of a ring. -/
set_option linter.unusedVariables false
set_option linter.unusedSimpArgs false
namespace Go.Proofs.Ytcbfnfggnocndaa
open Go.RowKit Go.Lib Go.Proofs.YtcbfnfggnocndaaW.PrintWords Go.Proofs.YtcbfnfggnocndaaW.PrintMore Math

/-- A number's eight bytes. -/
def num8 (n : Nat) : List Int := [((n % 256 : Nat) : Int), ((n / 256 % 256 : Nat) : Int), ((n / 65536 % 256 : Nat) : Int), ((n / 16777216 % 256 : Nat) : Int), ((n / 4294967296 % 256 : Nat) : Int), ((n / 1099511627776 % 256 : Nat) : Int), ((n / 281474976710656 % 256 : Nat) : Int), ((n / 72057594037927936 % 256 : Nat) : Int)]
def num8S (n : Nat) : ByteArray := strOfNums (num8 n)
theorem num8S_size (n : Nat) : (num8S n).size = 8 := nums_size _
theorem shr_nat (n j : Nat) (hj : j ≤ 64) : (shr .u64 (n : Int) (j : Int)) % 256 = ((n / 2 ^ j % 256 : Nat) : Int) := by
  unfold shr
  rw [Int.toNat_natCast, show min j IntKind.u64.bits = j from Nat.min_eq_left hj]
  rw [show ((2 : Int) ^ j) = ((2 ^ j : Nat) : Int) by rw [Int.natCast_pow]; rfl]
  omega
theorem number_step (n j k : Nat) (acc : List Int) (hj : j < 8) (ha : acc.length = j) : V.redo_number.l0 (k + 1) (n : Int) acc (j : Int) = V.redo_number.l0 k (n : Int) (acc ++ [((n / 2 ^ (8 * j) % 256 : Nat) : Int)]) ((j + 1 : Nat) : Int) := by
  rw [V.redo_number.l0, if_pos (by omega)]
  have hw : wrap64 (8 * (j : Int)) = ((8 * j : Nat) : Int) := by rw [w64 (by omega) (by omega)]; omega
  have hw2 : wrap64 ((j : Int) + 1) = ((j + 1 : Nat) : Int) := by rw [w64 (by omega) (by omega)]; omega
  rw [hw, hw2, if_pos (by clear hw hw2; omega), if_pos (by clear hw hw2; omega), shr_nat n (8 * j) (by clear hw hw2; omega)]
theorem number_eq (n k : Nat) (hk : 9 ≤ k) : V.redo_number.f k (n : Int) = some (num8S n) := by
  obtain ⟨k, rfl⟩ : ∃ j, k = j + 9 := ⟨k - 9, by omega⟩
  unfold V.redo_number.f
  have s0 := number_step n 0 (k + 8) [] (by decide) rfl
  have s1 := number_step n 1 (k + 7) [((n / 2 ^ (8 * 0) % 256 : Nat) : Int)] (by decide) rfl
  have s2 := number_step n 2 (k + 6) [((n / 2 ^ (8 * 0) % 256 : Nat) : Int), ((n / 2 ^ (8 * 1) % 256 : Nat) : Int)] (by decide) rfl
  have s3 := number_step n 3 (k + 5) [((n / 2 ^ (8 * 0) % 256 : Nat) : Int), ((n / 2 ^ (8 * 1) % 256 : Nat) : Int), ((n / 2 ^ (8 * 2) % 256 : Nat) : Int)] (by decide) rfl
  have s4 := number_step n 4 (k + 4) [((n / 2 ^ (8 * 0) % 256 : Nat) : Int), ((n / 2 ^ (8 * 1) % 256 : Nat) : Int), ((n / 2 ^ (8 * 2) % 256 : Nat) : Int), ((n / 2 ^ (8 * 3) % 256 : Nat) : Int)] (by decide) rfl
  have s5 := number_step n 5 (k + 3) [((n / 2 ^ (8 * 0) % 256 : Nat) : Int), ((n / 2 ^ (8 * 1) % 256 : Nat) : Int), ((n / 2 ^ (8 * 2) % 256 : Nat) : Int), ((n / 2 ^ (8 * 3) % 256 : Nat) : Int), ((n / 2 ^ (8 * 4) % 256 : Nat) : Int)] (by decide) rfl
  have s6 := number_step n 6 (k + 2) [((n / 2 ^ (8 * 0) % 256 : Nat) : Int), ((n / 2 ^ (8 * 1) % 256 : Nat) : Int), ((n / 2 ^ (8 * 2) % 256 : Nat) : Int), ((n / 2 ^ (8 * 3) % 256 : Nat) : Int), ((n / 2 ^ (8 * 4) % 256 : Nat) : Int), ((n / 2 ^ (8 * 5) % 256 : Nat) : Int)] (by decide) rfl
  have s7 := number_step n 7 (k + 1) [((n / 2 ^ (8 * 0) % 256 : Nat) : Int), ((n / 2 ^ (8 * 1) % 256 : Nat) : Int), ((n / 2 ^ (8 * 2) % 256 : Nat) : Int), ((n / 2 ^ (8 * 3) % 256 : Nat) : Int), ((n / 2 ^ (8 * 4) % 256 : Nat) : Int), ((n / 2 ^ (8 * 5) % 256 : Nat) : Int), ((n / 2 ^ (8 * 6) % 256 : Nat) : Int)] (by decide) rfl
  refine s0.trans (s1.trans (s2.trans (s3.trans (s4.trans (s5.trans (s6.trans (s7.trans ?_)))))))
  rw [V.redo_number.l0, if_neg (by decide)]
  unfold num8S num8
  simp only [Nat.reduceMul, Nat.reducePow, Nat.div_one, List.cons_append, List.nil_append]
/-- A record. -/
def recS (n : Nat) (s : ByteArray) : ByteArray := putS (num8S n ++ textS s)
theorem textS_size (s : ByteArray) : (textS s).size = (numS s.size).size + s.size := by unfold textS; rw [app_size]
theorem recS_size (n : Nat) (s : ByteArray) : (recS n s).size = (numS s.size).size + s.size + 12 := by
  unfold recS
  rw [putS_size, app_size, num8S_size, textS_size]; omega
theorem seal_Put_V (s : ByteArray) (hs : s.size ≤ 9223372036854775803) : V.seal_Put.f s = some (putS s) := (show V.seal_Put.f s = U.seal_Put.f s from rfl).trans (seal_Put_eq s hs)
theorem record_eq (n k : Nat) (s : ByteArray) (hk : 9 ≤ k) (hs : s.size ≤ 1000000000) : V.redo_Record.f k (n : Int) s = some (recS n s) := by
  have h10 := numS_size10 (show s.size < 18446744073709551616 by omega)
  unfold V.redo_Record.f
  rw [bs (number_eq n k hk), bs (show octet_Text.f s = some (textS s) from if_pos (by omega)), if_pos (by rw [num8S_size, textS_size]; omega)]
  have hz : (num8S n ++ textS s).size ≤ 9223372036854775803 := by rw [app_size, num8S_size, textS_size]; omega
  rw [bs (show V.seal_Put.f (num8S n ++ textS s) = some (putS (num8S n ++ textS s)) from seal_Put_V _ hz)]
  rfl
/-- How many sectors a record needs; the record, filled up to whole sectors. -/
def needN (s : ByteArray) : Nat := ((recS 0 s).size + 63) / 64
theorem needN_eq (n : Nat) (s : ByteArray) : needN s = ((recS n s).size + 63) / 64 := by unfold needN; rw [recS_size, recS_size]
theorem need_pos (s : ByteArray) : 1 ≤ needN s := by unfold needN; rw [recS_size]; omega
theorem need_big (n : Nat) (s : ByteArray) : (recS n s).size ≤ 64 * needN s := by rw [needN_eq n]; omega
def padB (n : Nat) (s : ByteArray) : List UInt8 := (recS n s).data.toList ++ List.replicate (64 * needN s - (recS n s).size) 0
theorem padB_len (n : Nat) (s : ByteArray) : (padB n s).length = 64 * needN s := by
  unfold padB
  rw [List.length_append, List.length_replicate, ← sz]
  have := need_big n s
  omega
theorem padB_head (n : Nat) (s : ByteArray) : (padB n s).take 8 = (num8S n).data.toList := by
  have e : (recS n s).data.toList = (num8S n).data.toList ++ ((textS s).data.toList ++ (fourS (sumN (num8S n ++ textS s))).data.toList) := by
    unfold recS putS
    rw [app, app, List.append_assoc]
  unfold padB
  rw [e, List.append_assoc]
  exact List.take_left' (by rw [← sz]; exact num8S_size n)
/-- What stands at a place of some bytes. -/
def standsB (B : List UInt8) (m n : Nat) : ByteArray × Nat :=
  if (textL (B.drop 8) 4096).2.2 = 0 ∧ needN ⟨(textL (B.drop 8) 4096).1.toArray⟩ ≤ m ∧ B.take (64 * needN ⟨(textL (B.drop 8) 4096).1.toArray⟩) = padB n ⟨(textL (B.drop 8) 4096).1.toArray⟩
  then (⟨(textL (B.drop 8) 4096).1.toArray⟩, needN ⟨(textL (B.drop 8) 4096).1.toArray⟩) else (⟨#[]⟩, 0)
theorem standsB_le (B : List UInt8) (m n : Nat) : (standsB B m n).2 ≤ m := by
  unfold standsB
  split
  · rename_i h; exact h.2.1
  · exact Nat.zero_le _
theorem standsB_no (B : List UInt8) (m n : Nat) (h : B.take 8 ≠ (num8S n).data.toList) : standsB B m n = (⟨#[]⟩, 0) := by
  unfold standsB
  rw [if_neg]
  rintro ⟨_, _, h3⟩
  apply h
  have := congrArg (List.take 8) h3
  rw [padB_head, List.take_take, show min 8 (64 * needN ⟨(textL (B.drop 8) 4096).1.toArray⟩) = 8 by have := need_pos ⟨(textL (B.drop 8) 4096).1.toArray⟩; omega] at this
  exact this
theorem textL_le (l : List UInt8) (m : Int) (h : (textL l m).2.2 = 0) : ((textL l m).1.length : Int) ≤ m := (text_inv h).2
theorem roundB_full (l : List ByteArray) (a : Nat) (hl : 1 ≤ l.length) (hs : ∀ s ∈ l, s.size = 64) : ∀ m, (roundB l a m).length = 64 * m
  | 0 => by simp [roundB]
  | m + 1 => by
    rw [roundB_succ, List.length_append, roundB_full l a hl hs m]
    have hlt : (a + m) % l.length < l.length := Nat.mod_lt _ (by omega)
    rw [List.getD_eq_getElem?_getD, List.getElem?_eq_getElem hlt]
    have := hs _ (List.getElem_mem hlt)
    rw [← sz]
    show 64 * m + l[(a + m) % l.length].size = _
    omega
theorem pbsz (l : List UInt8) : (⟨l.toArray⟩ : ByteArray).size = l.length := List.size_toArray ..
theorem pext (l : List UInt8) (a b : Nat) : ((⟨l.toArray⟩ : ByteArray).extract a b).data.toList = (l.drop a).take (b - a) := by
  rw [ByteArray.data_extract, Array.toList_extract, List.extract_eq_take_drop]
theorem prefix_eq (B : List UInt8) (n : Nat) (hB : B.length = 0 ∨ 8 ≤ B.length) : V.strings_HasPrefix.f ⟨B.toArray⟩ (num8S n) = some (decide (B.take 8 = (num8S n).data.toList)) := by
  unfold V.strings_HasPrefix.f V.stringslite_HasPrefix.f
  rw [num8S_size, pbsz]
  rcases hB with h | h
  · rw [if_neg (by rw [h]; decide)]
    have e : B = [] := List.eq_nil_of_length_eq_zero h
    subst e
    rw [show (some false).bind (fun t113 : Bool => some t113) = some false from rfl]
    rw [show decide (([] : List UInt8).take 8 = (num8S n).data.toList) = false from decide_eq_false (fun h2 => by
      have := congrArg List.length h2
      rw [← sz, num8S_size] at this
      simp at this)]
  · rw [if_pos (by omega), if_pos (by omega), if_pos (by omega)]
    show some _ = some _
    congr 1
    rw [tl, tl, show (((8 : Nat) : Int) : Int).toNat = 8 from rfl, pext, List.drop_zero, Nat.sub_zero, Bool.eq_iff_iff, beq_iff_eq, decide_eq_true_eq]
theorem sectors_eq (z : Nat) (hz : z ≤ 100000000) : V.redo_sectors.f (z : Int) = some (((z + 63) / 64 : Nat) : Int) := by
  unfold V.redo_sectors.f
  congr 1
  rw [w64 (n := (z : Int) + 64) (by omega) (by omega), w64 (n := (z : Int) + 64 - 1) (by omega) (by omega)]
  rw [show (z : Int) + 64 - 1 = ((z + 63 : Nat) : Int) by omega, show Int.tdiv ((z + 63 : Nat) : Int) 64 = (((z + 63) / 64 : Nat) : Int) from rfl]
  exact w64 (by omega) (by omega)
theorem zeros_dl (n : Nat) : (strOfNums (List.replicate n 0)).data.toList = List.replicate n 0 := by rw [nums_dl, List.map_replicate]; rfl
theorem stands_V (l : List ByteArray) (a m n k : Nat) (hk : 9 ≤ k) (hl : 1 ≤ l.length) (hln : l.length ≤ 10000) (hs : ∀ s ∈ l, s.size = 64) (ha : a < l.length) (hm : m ≤ l.length) :
    V.redo_stands.f k l (a : Int) (m : Int) (n : Int) = some ((standsB (roundB l a m) m n).1, ((standsB (roundB l a m) m n).2 : Int)) := by
  have hB := roundB_full l a hl hs m
  have e1 : redo_round.f l (a : Int) (m : Int) = some ⟨(roundB l a m).toArray⟩ := by
    unfold redo_round.f
    rw [if_pos ⟨hl, by omega, by omega, by omega, by omega, by omega, fun s h => by rw [hs s h]; exact Nat.le_refl _⟩]
    rfl
  unfold V.redo_stands.f
  rw [bs e1, bs (number_eq n k hk)]
  generalize roundB l a m = B at *
  rw [bs (prefix_eq B n (by omega))]
  by_cases hp : B.take 8 = (num8S n).data.toList
  · have h8 : 8 ≤ B.length := by
      have := congrArg List.length hp
      rw [← sz, num8S_size, List.length_take] at this
      omega
    rw [decide_eq_true hp, if_pos rfl, pbsz, if_pos (by omega)]
    have e2 : (⟨B.toArray⟩ : ByteArray).extract 8 B.length = ⟨(B.drop 8).toArray⟩ := by
      apply inj
      rw [pext, List.take_of_length_le (by rw [List.length_drop]; exact Nat.le_refl _)]
    rw [e2]
    have e3 : octet_TakeText.f ⟨(B.drop 8).toArray⟩ 4096 = some (outT (textL (B.drop 8) 4096)) := if_pos ⟨by rw [pbsz, List.length_drop]; omega, by decide, by decide⟩
    rw [bs e3]
    unfold outT
    dsimp only
    have hle := textL_le (B.drop 8) 4096
    by_cases h0 : (textL (B.drop 8) 4096).2.2 = 0
    · rw [if_pos h0]
      have hle := hle h0
      unfold standsB
      generalize (textL (B.drop 8) 4096).2.2 = z at *
      generalize (textL (B.drop 8) 4096).1 = T at *
      obtain ⟨s, hs0⟩ : ∃ s : ByteArray, s = ⟨T.toArray⟩ := ⟨_, rfl⟩
      have hsz : s.size ≤ 4096 := by rw [hs0, pbsz]; omega
      rw [← hs0]
      have hr := recS_size n s
      have h10 := numS_size10 (show s.size < 18446744073709551616 by omega)
      have hnb := need_big n s
      have hne := needN_eq n s
      rw [bs (record_eq n k s hk (by omega)), bs (sectors_eq (recS n s).size (by omega)), ← hne]
      by_cases hmn : needN s ≤ m
      · rw [if_neg (by omega)]
        have w1 : wrap64 (((needN s : Nat) : Int) * 64) = ((64 * needN s : Nat) : Int) := by rw [w64 (by omega) (by omega)]; omega
        have w2 : wrap64 (((64 * needN s : Nat) : Int) - ((recS n s).size : Int)) = ((64 * needN s - (recS n s).size : Nat) : Int) := by rw [w64 (by omega) (by omega)]; omega
        have k1 : (0 : Int) ≤ ((64 * needN s : Nat) : Int) := by omega
        have k2 : ((64 * needN s : Nat) : Int) ≤ (B.length : Int) := by omega
        have k3 : (0 : Int) ≤ ((64 * needN s - (recS n s).size : Nat) : Int) := by omega
        have k4 : 64 * needN s - (recS n s).size ≤ 281474976710656 := by omega
        have k5 : (recS n s).size + (64 * needN s - (recS n s).size) ≤ 9223372036854775807 := by omega
        rw [w1, w2, if_pos k1, if_pos k2, if_pos k3, Int.toNat_natCast, if_pos k4, Option.bind_some, nums_size, List.length_replicate, if_pos k5, Int.toNat_natCast]
        have e5 : ((⟨B.toArray⟩ : ByteArray).extract 0 (64 * needN s)).toList = B.take (64 * needN s) := by rw [tl, pext, List.drop_zero, Nat.sub_zero]
        have e6 : (recS n s ++ strOfNums (List.replicate (64 * needN s - (recS n s).size) 0)).toList = padB n s := by rw [tl, app, zeros_dl]; rfl
        rw [e5, e6]
        by_cases hq : B.take (64 * needN s) = padB n s
        · rw [if_pos hq, if_pos ⟨h0, hmn, hq⟩]
        · rw [if_neg hq, if_neg (fun h => hq h.2.2)]; rfl
      · rw [if_pos (by omega), if_neg (fun h => hmn h.2.1)]; rfl
    · rw [if_neg h0]
      unfold standsB
      rw [if_neg (fun h => h0 h.1)]; rfl
  · rw [decide_eq_false hp, if_neg (by decide), standsB_no B m n hp]; rfl
end Go.Proofs.Ytcbfnfggnocndaa
end

section
/- Layer 5, walked: Texts, in full. -/
set_option linter.unusedVariables false
set_option linter.unusedSimpArgs false
namespace Go.Proofs.Ytcbfnfggnocndaa
open Go.RowKit Go.Shelf Go.Proofs.Ytcbfnfggnocndaa.Q Go.Proofs.YtcbfnfggnocndaaW.PrintWords Go.Proofs.YtcbfnfggnocndaaW.PrintLast Go.Proofs.YtcbfnfggnocndaaW.PrintMore Math

/-- What stands in a ring. -/
def stR (R : List ByteArray) (a m n : Nat) : ByteArray × Nat := standsB (roundB R a m) m n
/-- The records found in a ring. -/
def found (R : List ByteArray) (at_ first most : Nat) : List ByteArray × Nat := foundP (stR R) R.length at_ first most
theorem goP_len (st : Nat → Nat → Nat → ByteArray × Nat) (n at_ first most : Nat) (hle : ∀ a m n, (st a m n).2 ≤ m) : ∀ f acc used, acc.length ≤ used → used ≤ n → (goP st n at_ first most f acc used).1.length ≤ n ∧ (goP st n at_ first most f acc used).2 ≤ n
  | 0, acc, used, h1, h2 => by unfold goP; exact ⟨by show acc.length ≤ n; omega, h2⟩
  | f + 1, acc, used, h1, h2 => by
    unfold goP
    split
    · exact ⟨by show acc.length ≤ n; omega, h2⟩
    · split
      · exact ⟨by show acc.length ≤ n; omega, h2⟩
      · rename_i h3
        have := hle ((at_ + used) % n) (n - used) ((first + acc.length) % 18446744073709551616)
        refine goP_len st n at_ first most hle f _ _ ?_ ?_
        · rw [List.length_append]; show acc.length + 1 ≤ _; omega
        · omega
theorem each_ring (g : FuncId) (lb : Array Value) (R : List ByteArray) (at_ first most : Nat) (I : List ByteArray → World → Prop) (Rb : Nat) (A : Option Addr) (c : Nat) (w : World)
    (hr : RdS w A R) (hc : R.length ≤ c) (hA : ∀ ad, A = some ad → ad.block ≠ Rb) (hl : 1 ≤ R.length) (hln : R.length ≤ 10000) (hs : ∀ s ∈ R, s.size = 64) (hat : at_ < R.length) (hf : first < 18446744073709551616) (hm : most ≤ 9223372036854775807)
    (hI0 : I [] w) (hIb : ∀ acc W W', I acc W → Below W.heap.size W W' → I acc W')
    (hg : ∀ acc W s (m : Int), acc.length ≤ R.length → I acc W → w.heap.size ≤ W.heap.size → Calls Try.prog g (#[.string s, .int .i64 m] ++ lb) W fun e W' => e = .returned (.tuple #[]) ∧ I (acc ++ [s]) W' ∧ KeepE w.heap.size Rb W W')
    (hen : ∀ args W, (callFunc g args).run Try.prog W = .ok (.enter g args) W) :
    Calls Try.prog 38 #[.slice A R.length c, .int .i64 at_, .int .u64 first, .int .i64 most, .func (.func g) #[] lb] w fun e w' =>
      e = .returned (.tuple #[.int .i64 (found R at_ first most).1.length, .int .i64 (found R at_ first most).2]) ∧ I (found R at_ first most).1 w' ∧ KeepE w.heap.size Rb w w' :=
  each_calls A c R at_ first most g lb (stR R) I Rb w hr hc hA hl hln hat hf hm (fun a m n ha hm _ => ⟨9, stands_V R a m n 9 (Nat.le_refl _) hl hln hs ha hm⟩) (fun a m n => standsB_le _ m n) hI0 hIb hg hen
theorem texts1_enters : ∀ args W, (callFunc 45 args).run Try.prog W = .ok (.enter 45 args) W := enters_of Try.func45 (by kernel_rfl) rfl
set_option maxHeartbeats 4000000 in
set_option maxRecDepth 1000000 in
theorem texts_main (A0 : Option Addr) (c0 : Nat) (l0 : List ByteArray) (A1 : Option Addr) (c1 : Nat) (l1 : List S88) (fr mn at_ first many : Nat) (used : Int) (w : World) (h0 : Kd.C Kd.string w A0 l0.length l0) (g0 : l0.length ≤ c0) (h1 : Kd.C k88 w A1 l1.length l1) (g1 : l1.length ≤ c1) (hok : DiskOk l0 l1)
    (hm : 1 ≤ mn) (hfm : fr + mn ≤ l0.length) (hmn : mn ≤ 10000) (hs : ∀ s ∈ ringL l0 l1 fr mn, s.size = 64) (hat : at_ < mn) (hf : first < 18446744073709551616) (hmy : many ≤ 9223372036854775807) :
    Calls Try.prog 24 #[.agg #[.slice A0 l0.length c0, .slice A1 l1.length c1, .bool false], .agg #[.int .i64 fr, .int .i64 mn], .agg #[.int .i64 at_, .int .i64 used, .int .u64 first, .int .i64 many]] w fun e w' =>
      ∃ v, e = .returned (.tuple #[v, .int .i64 0]) ∧ w'.ownsRow w.heap.size 9 1 v (found (ringL l0 l1 fr mn) at_ first many).1.length ((found (ringL l0 l1 fr mn) at_ first many).1.map Value.string) ∧ Below w.heap.size w w' := by
  have hrl := ringL_len l0 l1 fr mn hfm
  obtain ⟨W1, hW1⟩ : ∃ W1, W1 = (((w.alloc (.cells #[.slice A0 l0.length c0, .slice A1 l1.length c1, .bool false] 25)).alloc (.cells #[.int .i64 fr, .int .i64 mn] 27)).alloc (.cells #[.int .i64 at_, .int .i64 used, .int .u64 first, .int .i64 many] 30)).alloc (.cells #[.slice none 0 0] 22) := ⟨_, rfl⟩
  have hx0 := Bx2.new w (.slice A0 l0.length c0) (.slice A1 l1.length c1) (.bool false) fr mn
  obtain ⟨W2, hW2⟩ : ∃ W2, W2 = (w.alloc (.cells #[.slice A0 l0.length c0, .slice A1 l1.length c1, .bool false] 25)).alloc (.cells #[.int .i64 fr, .int .i64 mn] 27) := ⟨_, rfl⟩
  have hz2 : W2.heap.size = w.heap.size + 2 := by rw [hW2, World.size_alloc, World.size_alloc]
  rw [← hW2] at hx0 hW1
  have hl0 : BxL w (W2.alloc (.cells #[.int .i64 at_, .int .i64 used, .int .u64 first, .int .i64 many] 30)) at_ used first many := ⟨by rw [← hz2]; exact heap_alloc_new W2 _⟩
  have b3 := (Below.refl W2.heap.size W2).alloc (Nat.le_refl _) (.cells #[.int .i64 at_, .int .i64 used, .int .u64 first, .int .i64 many] 30)
  obtain ⟨W3, hW3⟩ : ∃ W3, W3 = W2.alloc (.cells #[.int .i64 at_, .int .i64 used, .int .u64 first, .int .i64 many] 30) := ⟨_, rfl⟩
  have hz3 : W3.heap.size = w.heap.size + 3 := by rw [hW3, World.size_alloc, hz2]
  rw [← hW3] at hl0 b3 hW1
  have b4 := (Below.refl W3.heap.size W3).alloc (Nat.le_refl _) (.cells #[.slice none 0 0] 22)
  have hc0 : One (W3.alloc (.cells #[.slice none 0 0] 22)) (w.heap.size + 3) (.slice none 0 0) 22 := by unfold One; rw [← hz3]; exact heap_alloc_new W3 _
  have hz1 : W1.heap.size = w.heap.size + 4 := by rw [hW1, World.size_alloc, hz3]
  rw [← hW1] at b4 hc0
  have hx := (hx0.step b3).step b4
  have hl := hl0.step b4
  have HXD : Hid (Bx2 w W1.drew _ _ _ _ _) := Lib.hid ⟨hx.d, hx.r, below_drew hx.b⟩
  have HLD : Hid (BxL w W1.drew _ _ _ _) := Lib.hid ⟨hl.l⟩
  have HCD : Hid (One W1.drew (w.heap.size + 3) (.slice none 0 0) 22) := Lib.hid hc0
  have hring := ring_calls A0 c0 l0 A1 c1 l1 false fr mn W1.drew (Kd.C_below h0 (below_drew hx.b)) g0 (Kd.C_below h1 (below_drew hx.b)) g1 hok hm hfm
  have HRING := Lib.hid hring
  have heach : ∀ (A3 : Option Addr) (c3 : Nat) (w3 : World), RdS w3 A3 (ringL l0 l1 fr mn) → (ringL l0 l1 fr mn).length ≤ c3 → (∀ ad, A3 = some ad → W1.drew.heap.size ≤ ad.block) → Below W1.drew.heap.size W1.drew w3 → One w3 (w.heap.size + 3) (.slice none 0 0) 22 → _ :=
    fun A3 c3 w3 hr hc hA hb ho => each_ring 45 #[.pointer (some ⟨w.heap.size + 3, 0, none⟩)] (ringL l0 l1 fr mn) at_ first many (Coll w3.heap.size (w.heap.size + 3)) (w.heap.size + 3) A3 c3 w3 hr hc
      (fun ad h => by have := hA ad h; have e : W1.drew.heap.size = W1.heap.size := rfl; omega) (by omega) (by omega) hs (by omega) hf hmy ⟨⟨_, ho, World.ownsRow_nil _ _ _ _⟩, ho.lt, Nat.le_refl _⟩ (fun _ _ _ h hb => h.below hb)
      (fun acc W s m hl hI _ => collect_calls _ _ acc W s m hI (by omega)) texts1_enters
  have HEACH := Lib.hid heach
  have HW1 := Lib.hid hW1; have HW2 := Lib.hid hW2; have HW3 := Lib.hid hW3
  clear h0 h1 hx0 hW1 hl0 b3 hW2 hW3 b4 hc0 hx hl hring heach hz1 hz2 hz3 hok hs hrl
  go_enter Try.func24, Try.ntmps24
  go_wp2_with fail
  rw [← HW2.out, ← HW3.out, ← HW1.out]
  refine start_ (n := 11) (S := fun w' => w'.cell? ⟨w.heap.size, 0, none⟩ = some (.slice A0 l0.length c0) ∧ w'.cell? ⟨w.heap.size, 1, none⟩ = some (.slice A1 l1.length c1) ∧ w'.cell? ⟨w.heap.size, 2, none⟩ = some (.bool false) ∧ w'.cell? ⟨w.heap.size + 1, 0, none⟩ = some (.int .i64 (fr : Int)) ∧ w'.cell? ⟨w.heap.size + 1, 1, none⟩ = some (.int .i64 (mn : Int)) ∧ w'.cell? ⟨w.heap.size + 2, 0, none⟩ = some (.int .i64 (at_ : Int)) ∧ w'.cell? ⟨w.heap.size + 2, 2, none⟩ = some (.int .u64 (first : Int)) ∧ w'.cell? ⟨w.heap.size + 2, 3, none⟩ = some (.int .i64 (many : Int))) (ds := []) #[false, false, false, false, false, false, false, false, false, false, false] (by kernel_rfl) rfl rfl ⟨HXD.out.c0, HXD.out.c1, HXD.out.c2, HXD.out.r0, HXD.out.r1, HLD.out.l0, HLD.out.l2, HLD.out.l3⟩ (fun hHeld => ?_)
  refine pure_ (i := 3) (N := some 14) (v := ?_) (a' := ?_) #[false, false, false, true, false, false, false, false, false, false, false] rfl rfl (by kernel_rfl) (fun _ _ _ h => h) (Or.inl ⟨by rfl, ?_⟩) ?_ ?_
  rotate_left
  · intro w'
    go_simp
    with_reducible rfl
  rotate_left
  · simp only [Act.put, List.setIfInBounds_toArray, List.set_cons_zero, List.set_cons_succ, i64_w, i32_w]
    rfl
  refine pure_ (i := 5) (N := some 16) (v := ?_) (a' := ?_) #[false, false, false, true, false, true, false, false, false, false, false] rfl rfl (by kernel_rfl) (fun _ _ _ h => h) (Or.inl ⟨by rfl, ?_⟩) ?_ ?_
  rotate_left
  · intro w'
    go_simp
    with_reducible rfl
  rotate_left
  · simp only [Act.put, List.setIfInBounds_toArray, List.set_cons_zero, List.set_cons_succ, i64_w, i32_w]
    rfl
  refine pure_ (i := 7) (N := some 18) (v := ?_) (a' := ?_) #[false, false, false, true, false, true, false, true, false, false, false] rfl rfl (by kernel_rfl) (fun _ _ _ h => h) (Or.inl ⟨by rfl, ?_⟩) ?_ ?_
  rotate_left
  · intro w'
    go_simp
    with_reducible rfl
  rotate_left
  · simp only [Act.put, List.setIfInBounds_toArray, List.set_cons_zero, List.set_cons_succ, i64_w, i32_w]
    rfl
  refine pure_ (i := 9) (N := some 20) (v := ?_) (a' := ?_) #[false, false, false, true, false, true, false, true, false, true, false] rfl rfl (by kernel_rfl) (fun _ _ _ h => h) (Or.inl ⟨by rfl, ?_⟩) ?_ ?_
  rotate_left
  · intro w'
    go_simp
    with_reducible rfl
  rotate_left
  · simp only [Act.put, List.setIfInBounds_toArray, List.set_cons_zero, List.set_cons_succ, i64_w, i32_w]
    rfl
  refine take_ (i := 0) (N := some 11) (v := ?_) (a' := ?_) #[true, false, false, true, false, true, false, true, false, true, false] rfl rfl (by kernel_rfl) (fun _ _ _ h => h) (Or.inl ⟨by rfl, ?_⟩) hHeld ?_ ?_
  rotate_left
  · rintro w' ⟨s0, s1, s2, s3, s4, s5, s6, s7⟩
    go_simp
    with_reducible rfl
  rotate_left
  · simp only [Act.put, List.setIfInBounds_toArray, List.set_cons_zero, List.set_cons_succ, i64_w, i32_w]
    rfl
  refine take_ (i := 1) (N := some 12) (v := ?_) (a' := ?_) #[true, true, false, true, false, true, false, true, false, true, false] rfl rfl (by kernel_rfl) (fun _ _ _ h => h) (Or.inl ⟨by rfl, ?_⟩) hHeld ?_ ?_
  rotate_left
  · rintro w' ⟨s0, s1, s2, s3, s4, s5, s6, s7⟩
    go_simp
    with_reducible rfl
  rotate_left
  · simp only [Act.put, List.setIfInBounds_toArray, List.set_cons_zero, List.set_cons_succ, i64_w, i32_w]
    rfl
  refine take_ (i := 4) (N := some 15) (v := ?_) (a' := ?_) #[true, true, false, true, true, true, false, true, false, true, false] rfl rfl (by kernel_rfl) (fun _ _ _ h => h) (Or.inl ⟨by rfl, ?_⟩) hHeld ?_ ?_
  rotate_left
  · rintro w' ⟨s0, s1, s2, s3, s4, s5, s6, s7⟩
    go_simp
    with_reducible rfl
  rotate_left
  · simp only [Act.put, List.setIfInBounds_toArray, List.set_cons_zero, List.set_cons_succ, i64_w, i32_w]
    rfl
  refine take_ (i := 6) (N := some 17) (v := ?_) (a' := ?_) #[true, true, false, true, true, true, true, true, false, true, false] rfl rfl (by kernel_rfl) (fun _ _ _ h => h) (Or.inl ⟨by rfl, ?_⟩) hHeld ?_ ?_
  rotate_left
  · rintro w' ⟨s0, s1, s2, s3, s4, s5, s6, s7⟩
    go_simp
    with_reducible rfl
  rotate_left
  · simp only [Act.put, List.setIfInBounds_toArray, List.set_cons_zero, List.set_cons_succ, i64_w, i32_w]
    rfl
  refine take_ (i := 8) (N := some 19) (v := ?_) (a' := ?_) #[true, true, false, true, true, true, true, true, true, true, false] rfl rfl (by kernel_rfl) (fun _ _ _ h => h) (Or.inl ⟨by rfl, ?_⟩) hHeld ?_ ?_
  rotate_left
  · rintro w' ⟨s0, s1, s2, s3, s4, s5, s6, s7⟩
    go_simp
    with_reducible rfl
  rotate_left
  · simp only [Act.put, List.setIfInBounds_toArray, List.set_cons_zero, List.set_cons_succ, i64_w, i32_w]
    rfl
  refine one_ (i := 2) (N := some 13) #[true, true, true, true, true, true, true, true, true, true, false] rfl rfl (by kernel_rfl) (by decide) (fun K hK => ?_)
  refine goes_ Try.func39 (by kernel_rfl) rfl #[.agg #[.slice A0 l0.length c0, .slice A1 l1.length c1, .bool false], .agg #[.int .i64 fr, .int .i64 mn]] (by rfl) rfl rfl (by simp only [List.map_toArray, List.map_cons, List.map_nil]; rfl) ?_
  with_reducible refine (HRING.out).mono ?_
  rintro e w3 ⟨A3, c3, rfl, hr3, hc3, hA3, hb3⟩
  refine ⟨_, rfl, ?_⟩
  have HX3 := Lib.hid (HXD.out.step hb3)
  have HL3 := Lib.hid (HLD.out.step hb3)
  have HC3 := Lib.hid (HCD.out.keep hb3 HCD.out.lt)
  have HR3 := Lib.hid hr3
  have HA3 := Lib.hid hA3
  have HB3 := Lib.hid hb3
  clear hr3 hA3 hb3
  refine hK.out _ _ ⟨HX3.out.c0, HX3.out.c1, HX3.out.c2, HX3.out.r0, HX3.out.r1, HL3.out.l0, HL3.out.l2, HL3.out.l3⟩ (fun hHeld => ?_)
  clear hK K
  refine norm_ (a' := ?_) ?_ ?_
  rotate_left
  · show Act.put _ (some 13) _ = _
    simp only [Act.put, List.setIfInBounds_toArray, List.set_cons_zero, List.set_cons_succ, i64_w, i32_w]
    rfl
  refine one_ (i := 10) (N := some 21) #[true, true, true, true, true, true, true, true, true, true, true] rfl rfl (by kernel_rfl) (by decide) (fun K hK => ?_)
  refine goes_ Try.func38 (by kernel_rfl) rfl #[.slice A3 (ringL l0 l1 fr mn).length c3, .int .i64 at_, .int .u64 first, .int .i64 many, .func (.func 45) #[] #[.pointer (some ⟨w.heap.size + 3, 0, none⟩)]] (by rfl) rfl rfl (by simp only [List.map_toArray, List.map_cons, List.map_nil]; rfl) ?_
  with_reducible refine ((HEACH.out A3 c3 w3 HR3.out hc3 HA3.out HB3.out HC3.out)).mono ?_
  rintro e w4 ⟨rfl, hi4, hk4⟩
  refine ⟨_, rfl, ?_⟩
  have HC4 := Lib.hid hi4
  have HX4 := Lib.hid (HX3.out.keep hk4 (by have := HC3.out.lt; omega) (by omega))
  have HL4 := Lib.hid (HL3.out.keep hk4 (by have := HC3.out.lt; omega) (by omega))
  clear hi4 hk4
  refine hK.out _ _ ⟨HX4.out.c0, HX4.out.c1, HX4.out.c2, HX4.out.r0, HX4.out.r1, HL4.out.l0, HL4.out.l2, HL4.out.l3⟩ (fun hHeld => ?_)
  clear hK K
  refine norm_ (a' := ?_) ?_ ?_
  rotate_left
  · show Act.put _ (some 21) _ = _
    simp only [Act.put, List.setIfInBounds_toArray, List.set_cons_zero, List.set_cons_succ, i64_w, i32_w]
    rfl
  refine done_ (by kernel_rfl) ?_
  obtain ⟨v, hv1, hv2⟩ := HC4.out.v
  have hvc : w4.cell? ⟨w.heap.size + 3, 0, none⟩ = some v := by rw [blk_cell hv1]; rfl
  have HV := Lib.hid hv2
  clear hv1 hv2
  go_wp2_with fail
  go_ret2
  exact ⟨_, rfl, own_weaken HV.out (by have := HX3.out.b.size; omega), HX4.out.b⟩
/-- What the walks of layer 5 ask of a disk, a ring, a place and a number. -/
def RedOk (l0 : List ByteArray) (l1 : List S88) (fr mn at_ first : Int) : Prop :=
  DiskOk l0 l1 ∧ 1 ≤ mn ∧ mn ≤ 10000 ∧ 0 ≤ fr ∧ fr + mn ≤ (l0.length : Int) ∧ 0 ≤ at_ ∧ at_ < mn ∧ 0 ≤ first ∧ first < 18446744073709551616 ∧ ∀ s ∈ ringL l0 l1 fr.toNat mn.toNat, s.size = 64
instance (l0 : List ByteArray) (l1 : List S88) (fr mn at_ first : Int) : Decidable (RedOk l0 l1 fr mn at_ first) := by unfold RedOk; infer_instance
/-- The records found in a ring of a disk. -/
def foundD (l0 : List ByteArray) (l1 : List S88) (fr mn at_ first many : Int) : List ByteArray × Nat := found (ringL l0 l1 fr.toNat mn.toNat) at_.toNat first.toNat many.toNat
def redo_Texts.f (l0_0 : List ByteArray) (l0_1 : List S88) (a0_2 : Bool) (a1_0 a1_1 a2_0 a2_1 a2_2 a2_3 : Int) : Option (List ByteArray × Int) :=
  if a0_2 = false ∧ RedOk l0_0 l0_1 a1_0 a1_1 a2_0 a2_2 ∧ 0 ≤ a2_3 ∧ a2_3 ≤ 9223372036854775807 then some ((foundD l0_0 l0_1 a1_0 a1_1 a2_0 a2_2 a2_3).1, 0) else none
theorem redo_Texts.calls (A0_0 : Option Addr) (c0_0 : Nat) (l0_0 : List ByteArray) (A0_1 : Option Addr) (c0_1 : Nat) (l0_1 : List S88) (a0_2 : Bool) (a1_0 a1_1 a2_0 a2_1 a2_2 a2_3 : Int) (r1 : List ByteArray) (r2 : Int) (w : World)
    (hr0_0 : Kd.C Kd.string w A0_0 l0_0.length l0_0) (hc0_0 : l0_0.length ≤ c0_0) (hr0_1 : Kd.C k88 w A0_1 l0_1.length l0_1) (hc0_1 : l0_1.length ≤ c0_1) (h : redo_Texts.f l0_0 l0_1 a0_2 a1_0 a1_1 a2_0 a2_1 a2_2 a2_3 = some (r1, r2)) :
    Calls Try.prog 24 #[.agg #[.slice A0_0 l0_0.length c0_0, .slice A0_1 l0_1.length c0_1, .bool a0_2], .agg #[.int .i64 a1_0, .int .i64 a1_1], .agg #[.int .i64 a2_0, .int .i64 a2_1, .int .u64 a2_2, .int .i64 a2_3]] w fun e w' =>
      ∃ v0_, e = .returned (.tuple #[v0_, .int .i64 r2]) ∧ Kd.R Kd.string 9 w' w.heap.size (fun _ => True) v0_ r1 ∧ Below w.heap.size w w' := by
  unfold redo_Texts.f at h
  split at h
  · rename_i hh
    obtain ⟨rfl, ⟨hok, q1, q2, q3, q4, q5, q6, q7, q8, q9⟩, q10, q11⟩ := hh
    obtain ⟨rfl, rfl⟩ := Prod.mk.inj (Option.some.inj h)
    obtain ⟨fr, rfl⟩ := Int.eq_ofNat_of_zero_le q3
    obtain ⟨mn, rfl⟩ := Int.eq_ofNat_of_zero_le (show 0 ≤ a1_1 by omega)
    obtain ⟨at_, rfl⟩ := Int.eq_ofNat_of_zero_le q5
    obtain ⟨first, rfl⟩ := Int.eq_ofNat_of_zero_le q7
    obtain ⟨many, rfl⟩ := Int.eq_ofNat_of_zero_le q10
    refine (texts_main A0_0 c0_0 l0_0 A0_1 c0_1 l0_1 fr mn at_ first many a2_1 w hr0_0 hc0_0 hr0_1 hc0_1 hok (by omega) (by omega) (by omega) q9 (by omega) (by omega) (by omega)).mono ?_
    rintro e w' ⟨v, rfl, ho, hb⟩
    exact ⟨v, rfl, Kd.R_of_own ho (fun _ _ => trivial), hb⟩
  · cases h
end Go.Proofs.Ytcbfnfggnocndaa
end

section
/- Layer 5, walked: may; the functions that do nothing. -/
set_option linter.unusedVariables false
set_option linter.unusedSimpArgs false
namespace Go.Proofs.Ytcbfnfggnocndaa
open Go.RowKit Go.Shelf Go.Proofs.Ytcbfnfggnocndaa.Q Go.Proofs.YtcbfnfggnocndaaW.PrintWords Go.Proofs.YtcbfnfggnocndaaW.PrintLast Go.Proofs.YtcbfnfggnocndaaW.PrintMore Math

theorem nop1_calls (W : World) (s : ByteArray) (m : Int) : Calls Try.prog 43 (#[.string s, .int .i64 m] ++ #[]) W fun e W' => e = .returned (.tuple #[]) ∧ W' = W := by
  show Calls Try.prog 43 #[.string s, .int .i64 m] W _
  go_enter Try.func43, Try.ntmps43
  go_wp2_with fail
  go_end0
  exact ⟨rfl, rfl⟩
theorem nop2_calls (W : World) (s : ByteArray) (m : Int) : Calls Try.prog 46 (#[.string s, .int .i64 m] ++ #[]) W fun e W' => e = .returned (.tuple #[]) ∧ W' = W := by
  show Calls Try.prog 46 #[.string s, .int .i64 m] W _
  go_enter Try.func46, Try.ntmps46
  go_wp2_with fail
  go_end0
  exact ⟨rfl, rfl⟩
theorem nop1_enters : ∀ args W, (callFunc 43 args).run Try.prog W = .ok (.enter 43 args) W := enters_of Try.func43 (by kernel_rfl) rfl
theorem nop2_enters : ∀ args W, (callFunc 46 args).run Try.prog W = .ok (.enter 46 args) W := enters_of Try.func46 (by kernel_rfl) rfl
/-- Is a ring right? -/
def mayR (n : Nat) (fr mn : Int) : Bool := decide (0 ≤ fr) && (decide (1 ≤ mn) && (decide (mn ≤ (n : Int)) && decide (fr ≤ (n : Int) - mn)))
set_option maxHeartbeats 2000000 in
set_option maxRecDepth 1000000 in
theorem may_calls (A0 : Option Addr) (c0 n0 : Nat) (A1 : Option Addr) (c1 n1 : Nat) (off : Bool) (fr mn : Int) (hn : n0 ≤ 1000000000) (w : World) :
    Calls Try.prog 37 #[.agg #[.slice A0 n0 c0, .slice A1 n1 c1, .bool off], .agg #[.int .i64 fr, .int .i64 mn]] w fun e w' => e = .returned (.bool (mayR n0 fr mn)) ∧ Below w.heap.size w w' := by
  unfold mayR
  have hb := ((Below.refl w.heap.size w).alloc (Nat.le_refl _) (.cells #[.slice A0 n0 c0, .slice A1 n1 c1, .bool off] 25)).alloc (by rw [World.size_alloc]; omega) (.cells #[.int .i64 fr, .int .i64 mn] 27)
  have HB := Lib.hid hb
  clear hb
  by_cases h1 : 0 ≤ fr
  · have d1 : decide (0 ≤ fr) = true := decide_eq_true h1
    by_cases h2 : 1 ≤ mn
    · have d2 : decide (1 ≤ mn) = true := decide_eq_true h2
      by_cases h3 : mn ≤ (n0 : Int)
      · have d3 : decide (mn ≤ (n0 : Int)) = true := decide_eq_true h3
        have hw : wrap64 ((n0 : Int) - mn) = (n0 : Int) - mn := w64 (by omega) (by omega)
        cases d4 : decide (fr ≤ (n0 : Int) - mn)
        all_goals
          rw [d1, d2, d3]
          go_enter Try.func37, Try.ntmps37
          go_wp2_with fail
          first | go_ret | (go_quiet (fail); go_wp2_with fail; go_ret)
          first | exact ⟨rfl, HB.out⟩ | exact ⟨rfl, pw_below_drewN HB.out _⟩
      · have d3 : decide (mn ≤ (n0 : Int)) = false := decide_eq_false h3
        rw [d1, d2, d3]
        go_enter Try.func37, Try.ntmps37
        go_wp2_with fail
        first | go_ret | (go_quiet (fail); go_wp2_with fail; go_ret)
        first | exact ⟨rfl, HB.out⟩ | exact ⟨rfl, pw_below_drewN HB.out _⟩
    · have d2 : decide (1 ≤ mn) = false := decide_eq_false h2
      rw [d1, d2]
      go_enter Try.func37, Try.ntmps37
      go_wp2_with fail
      first | go_ret | (go_quiet (fail); go_wp2_with fail; go_ret)
      first | exact ⟨rfl, HB.out⟩ | exact ⟨rfl, pw_below_drewN HB.out _⟩
  · have d1 : decide (0 ≤ fr) = false := decide_eq_false h1
    rw [d1]
    go_enter Try.func37, Try.ntmps37
    go_wp2_with fail
    first | go_ret | (go_quiet (fail); go_wp2_with fail; go_ret)
    first | exact ⟨rfl, HB.out⟩ | exact ⟨rfl, pw_below_drewN HB.out _⟩
end Go.Proofs.Ytcbfnfggnocndaa
end

section
/- Layer 5, walked: Right. -/
set_option linter.unusedVariables false
set_option linter.unusedSimpArgs false
namespace Go.Proofs.Ytcbfnfggnocndaa
open Go.RowKit Go.Shelf Go.Proofs.Ytcbfnfggnocndaa.Q Go.Proofs.YtcbfnfggnocndaaW.PrintWords Go.Proofs.YtcbfnfggnocndaaW.PrintLast Go.Proofs.YtcbfnfggnocndaaW.PrintMore Math

theorem bx3_new (w : World) (d0 d1 d2 : Value) (f m a u fi ma : Int) (W : World) (hW : W = ((w.alloc (.cells #[d0, d1, d2] 25)).alloc (.cells #[.int .i64 f, .int .i64 m] 27)).alloc (.cells #[.int .i64 a, .int .i64 u, .int .u64 fi, .int .i64 ma] 30)) :
    Bx2 w W d0 d1 d2 f m ∧ BxL w W a u fi ma ∧ W.heap.size = w.heap.size + 3 := by
  have hx0 := Bx2.new w d0 d1 d2 f m
  obtain ⟨W2, hW2⟩ : ∃ W2, W2 = (w.alloc (.cells #[d0, d1, d2] 25)).alloc (.cells #[.int .i64 f, .int .i64 m] 27) := ⟨_, rfl⟩
  have hz2 : W2.heap.size = w.heap.size + 2 := by rw [hW2, World.size_alloc, World.size_alloc]
  rw [← hW2] at hx0 hW
  have b3 := (Below.refl W2.heap.size W2).alloc (Nat.le_refl _) (.cells #[.int .i64 a, .int .i64 u, .int .u64 fi, .int .i64 ma] 30)
  rw [← hW] at b3
  refine ⟨hx0.step b3, ⟨by rw [← hz2, hW]; exact heap_alloc_new W2 _⟩, by rw [hW, World.size_alloc, hz2]⟩
set_option maxHeartbeats 4000000 in
set_option maxRecDepth 1000000 in
theorem right_main (A0 : Option Addr) (c0 : Nat) (l0 : List ByteArray) (A1 : Option Addr) (c1 : Nat) (l1 : List S88) (fr mn at_ first many : Nat) (used : Int) (w : World) (h0 : Kd.C Kd.string w A0 l0.length l0) (g0 : l0.length ≤ c0) (h1 : Kd.C k88 w A1 l1.length l1) (g1 : l1.length ≤ c1) (hok : DiskOk l0 l1)
    (hm : 1 ≤ mn) (hfm : fr + mn ≤ l0.length) (hmn : mn ≤ 10000) (hs : ∀ s ∈ ringL l0 l1 fr mn, s.size = 64) (hat : at_ < mn) (hf : first < 18446744073709551616) (hmy : many ≤ 9223372036854775807) :
    Calls Try.prog 22 #[.agg #[.slice A0 l0.length c0, .slice A1 l1.length c1, .bool false], .agg #[.int .i64 fr, .int .i64 mn], .agg #[.int .i64 at_, .int .i64 used, .int .u64 first, .int .i64 many]] w fun e w' =>
      e = .returned (.bool ((((found (ringL l0 l1 fr mn) at_ first many).1.length : Int) == (many : Int)) && (((found (ringL l0 l1 fr mn) at_ first many).2 : Int) == used))) ∧ Below w.heap.size w w' := by
  have hrl := ringL_len l0 l1 fr mn hfm
  obtain ⟨W1, hW1⟩ : ∃ W1, W1 = ((w.alloc (.cells #[.slice A0 l0.length c0, .slice A1 l1.length c1, .bool false] 25)).alloc (.cells #[.int .i64 fr, .int .i64 mn] 27)).alloc (.cells #[.int .i64 at_, .int .i64 used, .int .u64 first, .int .i64 many] 30) := ⟨_, rfl⟩
  obtain ⟨hx, hl, hz⟩ := bx3_new w _ _ _ _ _ _ _ _ _ W1 hW1
  have hmay : mayR l0.length fr mn = true := by
    unfold mayR
    rw [decide_eq_true (by omega), decide_eq_true (by omega), decide_eq_true (by omega), decide_eq_true (by omega)]; rfl
  have hmc := may_calls A0 c0 l0.length A1 c1 l1.length false fr mn hok.2.1 W1
  rw [hmay] at hmc
  have hring := fun W (hb : Below w.heap.size w W) => ring_calls A0 c0 l0 A1 c1 l1 false fr mn W (Kd.C_below h0 hb) g0 (Kd.C_below h1 hb) g1 hok hm hfm
  have heach : ∀ (A3 : Option Addr) (c3 : Nat) (w3 : World), RdS w3 A3 (ringL l0 l1 fr mn) → (ringL l0 l1 fr mn).length ≤ c3 → _ :=
    fun A3 c3 w3 hr hc => each_ring 43 #[] (ringL l0 l1 fr mn) at_ first many (fun _ _ => True) w3.heap.size A3 c3 w3 hr hc
      (fun ad h => by
        rcases hr with hr | ⟨ad2, h2, h3, _⟩
        · rw [hr] at hrl; simp at hrl; omega
        · rw [h] at h2; obtain rfl := Option.some.inj h2; omega) (by omega) (by omega) hs (by omega) hf hmy trivial (fun _ _ _ _ _ => trivial)
      (fun acc W s m _ _ _ => (nop1_calls W s m).mono fun e W' h => ⟨h.1, trivial, by rw [h.2]; exact KeepE.refl _ _ _⟩) nop1_enters
  have HRINGF := Lib.hid hring; have HEACH := Lib.hid heach; have HMC := Lib.hid hmc; have HX := Lib.hid hx; have HL := Lib.hid hl; have HZ := Lib.hid hz; have HW1 := Lib.hid hW1
  have e1 : decide ((at_ : Int) < 0) = false := decide_eq_false (by omega)
  have e2 : decide ((mn : Int) ≤ (at_ : Int)) = false := decide_eq_false (by omega)
  have e2n : decide (mn ≤ at_) = false := decide_eq_false (by omega)
  have e3 : decide ((many : Int) < 0) = false := decide_eq_false (by omega)
  clear h0 h1 hx hl hz hW1 hmc hring heach hok hs hrl hmay
  go_enter Try.func22, Try.ntmps22
  go_wp2_with fail
  rw [← HW1.out]
  refine HMC.out.mono ?_
  rintro e w2 ⟨rfl, hb2⟩
  have HX2 := Lib.hid (HX.out.step hb2); have HL2 := Lib.hid (HL.out.step hb2)
  have HZD : Hid (w.heap.size + 2 < w2.drew.heap.size) := Lib.hid (by have h1 := hb2.size; have h2 := HZ.out; have e : w2.drew.heap.size = w2.heap.size := rfl; omega)
  have HXD : Hid (Bx2 w w2.drew _ _ _ _ _) := Lib.hid ⟨HX2.out.d, HX2.out.r, below_drew HX2.out.b⟩
  have HLD : Hid (BxL w w2.drew _ _ _ _) := Lib.hid ⟨HL2.out.l⟩
  have HRING := Lib.hid (HRINGF.out w2.drew (below_drew HX2.out.b))
  have q0 := HL2.out.l0; have q3 := HL2.out.l3; have q4 := HX2.out.r1
  clear hb2 HMC HX HL HRINGF
  go_wp2_with fail
  refine start_ (n := 15) (S := fun w' => w'.cell? ⟨w.heap.size, 0, none⟩ = some (.slice A0 l0.length c0) ∧ w'.cell? ⟨w.heap.size, 1, none⟩ = some (.slice A1 l1.length c1) ∧ w'.cell? ⟨w.heap.size, 2, none⟩ = some (.bool false) ∧ w'.cell? ⟨w.heap.size + 1, 0, none⟩ = some (.int .i64 (fr : Int)) ∧ w'.cell? ⟨w.heap.size + 1, 1, none⟩ = some (.int .i64 (mn : Int)) ∧ w'.cell? ⟨w.heap.size + 2, 0, none⟩ = some (.int .i64 (at_ : Int)) ∧ w'.cell? ⟨w.heap.size + 2, 2, none⟩ = some (.int .u64 (first : Int)) ∧ w'.cell? ⟨w.heap.size + 2, 3, none⟩ = some (.int .i64 (many : Int))) (ds := []) #[false, false, false, false, false, false, false, false, false, false, false, false, false, false, false] (by kernel_rfl) rfl rfl ⟨HXD.out.c0, HXD.out.c1, HXD.out.c2, HXD.out.r0, HXD.out.r1, HLD.out.l0, HLD.out.l2, HLD.out.l3⟩ (fun hHeld => ?_)
  refine pure_ (i := 3) (N := some 38) (v := ?_) (a' := ?_) #[false, false, false, true, false, false, false, false, false, false, false, false, false, false, false] rfl rfl (by kernel_rfl) (fun _ _ _ h => h) (Or.inl ⟨by rfl, ?_⟩) ?_ ?_
  rotate_left
  · intro w'
    go_simp
    with_reducible rfl
  rotate_left
  · simp only [Act.put, List.setIfInBounds_toArray, List.set_cons_zero, List.set_cons_succ, i64_w, i32_w]
    rfl
  refine pure_ (i := 5) (N := some 40) (v := ?_) (a' := ?_) #[false, false, false, true, false, true, false, false, false, false, false, false, false, false, false] rfl rfl (by kernel_rfl) (fun _ _ _ h => h) (Or.inl ⟨by rfl, ?_⟩) ?_ ?_
  rotate_left
  · intro w'
    go_simp
    with_reducible rfl
  rotate_left
  · simp only [Act.put, List.setIfInBounds_toArray, List.set_cons_zero, List.set_cons_succ, i64_w, i32_w]
    rfl
  refine pure_ (i := 7) (N := some 42) (v := ?_) (a' := ?_) #[false, false, false, true, false, true, false, true, false, false, false, false, false, false, false] rfl rfl (by kernel_rfl) (fun _ _ _ h => h) (Or.inl ⟨by rfl, ?_⟩) ?_ ?_
  rotate_left
  · intro w'
    go_simp
    with_reducible rfl
  rotate_left
  · simp only [Act.put, List.setIfInBounds_toArray, List.set_cons_zero, List.set_cons_succ, i64_w, i32_w]
    rfl
  refine take_ (i := 0) (N := some 35) (v := ?_) (a' := ?_) #[true, false, false, true, false, true, false, true, false, false, false, false, false, false, false] rfl rfl (by kernel_rfl) (fun _ _ _ h => h) (Or.inl ⟨by rfl, ?_⟩) hHeld ?_ ?_
  rotate_left
  · rintro w' ⟨s0, s1, s2, s3, s4, s5, s6, s7⟩
    go_simp
    with_reducible rfl
  rotate_left
  · simp only [Act.put, List.setIfInBounds_toArray, List.set_cons_zero, List.set_cons_succ, i64_w, i32_w]
    rfl
  refine take_ (i := 1) (N := some 36) (v := ?_) (a' := ?_) #[true, true, false, true, false, true, false, true, false, false, false, false, false, false, false] rfl rfl (by kernel_rfl) (fun _ _ _ h => h) (Or.inl ⟨by rfl, ?_⟩) hHeld ?_ ?_
  rotate_left
  · rintro w' ⟨s0, s1, s2, s3, s4, s5, s6, s7⟩
    go_simp
    with_reducible rfl
  rotate_left
  · simp only [Act.put, List.setIfInBounds_toArray, List.set_cons_zero, List.set_cons_succ, i64_w, i32_w]
    rfl
  refine take_ (i := 4) (N := some 39) (v := ?_) (a' := ?_) #[true, true, false, true, true, true, false, true, false, false, false, false, false, false, false] rfl rfl (by kernel_rfl) (fun _ _ _ h => h) (Or.inl ⟨by rfl, ?_⟩) hHeld ?_ ?_
  rotate_left
  · rintro w' ⟨s0, s1, s2, s3, s4, s5, s6, s7⟩
    go_simp
    with_reducible rfl
  rotate_left
  · simp only [Act.put, List.setIfInBounds_toArray, List.set_cons_zero, List.set_cons_succ, i64_w, i32_w]
    rfl
  refine take_ (i := 6) (N := some 41) (v := ?_) (a' := ?_) #[true, true, false, true, true, true, true, true, false, false, false, false, false, false, false] rfl rfl (by kernel_rfl) (fun _ _ _ h => h) (Or.inl ⟨by rfl, ?_⟩) hHeld ?_ ?_
  rotate_left
  · rintro w' ⟨s0, s1, s2, s3, s4, s5, s6, s7⟩
    go_simp
    with_reducible rfl
  rotate_left
  · simp only [Act.put, List.setIfInBounds_toArray, List.set_cons_zero, List.set_cons_succ, i64_w, i32_w]
    rfl
  refine take_ (i := 8) (N := some 43) (v := ?_) (a' := ?_) #[true, true, false, true, true, true, true, true, true, false, false, false, false, false, false] rfl rfl (by kernel_rfl) (fun _ _ _ h => h) (Or.inl ⟨by rfl, ?_⟩) hHeld ?_ ?_
  rotate_left
  · rintro w' ⟨s0, s1, s2, s3, s4, s5, s6, s7⟩
    go_simp
    with_reducible rfl
  rotate_left
  · simp only [Act.put, List.setIfInBounds_toArray, List.set_cons_zero, List.set_cons_succ, i64_w, i32_w]
    rfl
  refine one_ (i := 2) (N := some 37) #[true, true, true, true, true, true, true, true, true, false, false, false, false, false, false] rfl rfl (by kernel_rfl) (by decide) (fun K hK => ?_)
  refine goes_ Try.func39 (by kernel_rfl) rfl #[.agg #[.slice A0 l0.length c0, .slice A1 l1.length c1, .bool false], .agg #[.int .i64 fr, .int .i64 mn]] (by rfl) rfl rfl (by simp only [List.map_toArray, List.map_cons, List.map_nil]; rfl) ?_
  with_reducible refine (HRING.out).mono ?_
  rintro e w3 ⟨A3, c3, rfl, hr3, hc3, hA3, hb3⟩
  refine ⟨_, rfl, ?_⟩
  have HX3 := Lib.hid (HXD.out.step hb3)
  have HL3 := Lib.hid (HLD.out.step hb3)
  have HR3 := Lib.hid hr3
  have HZ3 := Lib.hid (Nat.lt_of_lt_of_le HZD.out hb3.size)
  clear hr3 hA3 hb3
  refine hK.out _ _ ⟨HX3.out.c0, HX3.out.c1, HX3.out.c2, HX3.out.r0, HX3.out.r1, HL3.out.l0, HL3.out.l2, HL3.out.l3⟩ (fun hHeld => ?_)
  clear hK K
  refine norm_ (a' := ?_) ?_ ?_
  rotate_left
  · show Act.put _ (some 37) _ = _
    simp only [Act.put, List.setIfInBounds_toArray, List.set_cons_zero, List.set_cons_succ, i64_w, i32_w]
    rfl
  refine one_ (i := 9) (N := some 44) #[true, true, true, true, true, true, true, true, true, true, false, false, false, false, false] rfl rfl (by kernel_rfl) (by decide) (fun K hK => ?_)
  refine goes_ Try.func38 (by kernel_rfl) rfl #[.slice A3 (ringL l0 l1 fr mn).length c3, .int .i64 at_, .int .u64 first, .int .i64 many, .func (.func 43) #[] #[]] (by rfl) rfl rfl (by simp only [List.map_toArray, List.map_cons, List.map_nil]; rfl) ?_
  with_reducible refine ((HEACH.out A3 c3 w3 HR3.out hc3)).mono ?_
  rintro e w4 ⟨rfl, _, hk4⟩
  refine ⟨_, rfl, ?_⟩
  have HX4 := Lib.hid (HX3.out.keep hk4 (by have := HZ3.out; omega) (by have := HZ3.out; omega))
  have HL4 := Lib.hid (HL3.out.keep hk4 (by have := HZ3.out; omega) (by have := HZ3.out; omega))
  clear hk4
  refine hK.out _ _ ⟨HX4.out.c0, HX4.out.c1, HX4.out.c2, HX4.out.r0, HX4.out.r1, HL4.out.l0, HL4.out.l2, HL4.out.l3⟩ (fun hHeld => ?_)
  clear hK K
  refine norm_ (a' := ?_) ?_ ?_
  rotate_left
  · show Act.put _ (some 44) _ = _
    simp only [Act.put, List.setIfInBounds_toArray, List.set_cons_zero, List.set_cons_succ, i64_w, i32_w]
    rfl
  refine pure_ (i := 10) (N := some 34) (v := ?_) (a' := ?_) #[true, true, true, true, true, true, true, true, true, true, true, false, false, false, false] rfl rfl (by kernel_rfl) (fun _ _ _ h => h) (Or.inl ⟨by rfl, ?_⟩) ?_ ?_
  rotate_left
  · intro w'
    go_simp
    with_reducible rfl
  rotate_left
  · simp only [Act.put, List.setIfInBounds_toArray, List.set_cons_zero, List.set_cons_succ, i64_w, i32_w]
    rfl
  refine pure_ (i := 11) (N := some 45) (v := ?_) (a' := ?_) #[true, true, true, true, true, true, true, true, true, true, true, true, false, false, false] rfl rfl (by kernel_rfl) (fun _ _ _ h => h) (Or.inl ⟨by rfl, ?_⟩) ?_ ?_
  rotate_left
  · intro w'
    go_simp
    with_reducible rfl
  rotate_left
  · simp only [Act.put, List.setIfInBounds_toArray, List.set_cons_zero, List.set_cons_succ, i64_w, i32_w]
    rfl
  refine pure_ (i := 12) (N := some 46) (v := ?_) (a' := ?_) #[true, true, true, true, true, true, true, true, true, true, true, true, true, false, false] rfl rfl (by kernel_rfl) (fun _ _ _ h => h) (Or.inl ⟨by rfl, ?_⟩) ?_ ?_
  rotate_left
  · intro w'
    go_simp
    with_reducible rfl
  rotate_left
  · simp only [Act.put, List.setIfInBounds_toArray, List.set_cons_zero, List.set_cons_succ, i64_w, i32_w]
    rfl
  refine pure_ (i := 13) (N := some 7) (v := ?_) (a' := ?_) #[true, true, true, true, true, true, true, true, true, true, true, true, true, true, false] rfl rfl (by kernel_rfl) (fun _ _ _ h => h) (Or.inl ⟨by rfl, ?_⟩) ?_ ?_
  rotate_left
  · intro w'
    go_simp
    with_reducible rfl
  rotate_left
  · simp only [Act.put, List.setIfInBounds_toArray, List.set_cons_zero, List.set_cons_succ, i64_w, i32_w]
    rfl
  refine pure_ (i := 14) (N := some 8) (v := ?_) (a' := ?_) #[true, true, true, true, true, true, true, true, true, true, true, true, true, true, true] rfl rfl (by kernel_rfl) (fun _ _ _ h => h) (Or.inl ⟨by rfl, ?_⟩) ?_ ?_
  rotate_left
  · intro w'
    go_simp
    with_reducible rfl
  rotate_left
  · simp only [Act.put, List.setIfInBounds_toArray, List.set_cons_zero, List.set_cons_succ, i64_w, i32_w]
    rfl
  refine done_ (by kernel_rfl) ?_
  clear q0 q3 q4
  have q3 := HL4.out.l3; have q1 := HL4.out.l1
  obtain ⟨b1, hb1⟩ : ∃ b1, b1 = (((found (ringL l0 l1 fr mn) at_ first many).1.length : Int) == (many : Int)) := ⟨_, rfl⟩
  obtain ⟨b2, hb2⟩ : ∃ b2, b2 = (((found (ringL l0 l1 fr mn) at_ first many).2 : Int) == used) := ⟨_, rfl⟩
  replace hb1 := hb1.symm
  replace hb2 := hb2.symm
  cases b1
  · go_wp2_with fail
    go_ret
    exact ⟨by rw [hb1]; rfl, HX4.out.b⟩
  · cases b2
    all_goals
      go_wp2_with fail
      go_ret
      exact ⟨by rw [hb1, hb2]; rfl, HX4.out.b⟩
set_option maxHeartbeats 2000000 in
set_option maxRecDepth 1000000 in
theorem right_fail (A0 : Option Addr) (c0 n0 : Nat) (A1 : Option Addr) (c1 n1 : Nat) (off : Bool) (fr mn at_ used first many : Int) (hn : n0 ≤ 1000000000) (w : World)
    (h : off = true ∨ mayR n0 fr mn = false ∨ at_ < 0 ∨ mn ≤ at_ ∨ many < 0) :
    Calls Try.prog 22 #[.agg #[.slice A0 n0 c0, .slice A1 n1 c1, .bool off], .agg #[.int .i64 fr, .int .i64 mn], .agg #[.int .i64 at_, .int .i64 used, .int .u64 first, .int .i64 many]] w fun e w' => e = .returned (.bool false) ∧ Below w.heap.size w w' := by
  obtain ⟨W1, hW1⟩ : ∃ W1, W1 = ((w.alloc (.cells #[.slice A0 n0 c0, .slice A1 n1 c1, .bool off] 25)).alloc (.cells #[.int .i64 fr, .int .i64 mn] 27)).alloc (.cells #[.int .i64 at_, .int .i64 used, .int .u64 first, .int .i64 many] 30) := ⟨_, rfl⟩
  obtain ⟨hx, hl, hz⟩ := bx3_new w _ _ _ _ _ _ _ _ _ W1 hW1
  have hmc := may_calls A0 c0 n0 A1 c1 n1 off fr mn hn W1
  have HMC := Lib.hid hmc; have HX := Lib.hid hx; have HL := Lib.hid hl; have HW1 := Lib.hid hW1
  clear hmc hx hl hz hW1
  cases off with
  | true =>
    clear h
    go_enter Try.func22, Try.ntmps22
    go_wp2_with fail
    go_ret
    exact ⟨rfl, by rw [← HW1.out]; exact HX.out.b⟩
  | false =>
    cases hm : mayR n0 fr mn with
    | false =>
      rw [hm] at HMC
      clear h
      go_enter Try.func22, Try.ntmps22
      go_wp2_with fail
      rw [← HW1.out]
      refine HMC.out.mono ?_
      rintro e w2 ⟨rfl, hb2⟩
      have HX2 := Lib.hid (HX.out.step hb2)
      clear hb2
      go_wp2_with fail
      go_ret
      exact ⟨rfl, HX2.out.b⟩
    | true =>
      rw [hm] at HMC
      by_cases h1 : at_ < 0
      · have e1 : decide (at_ < 0) = true := decide_eq_true h1
        clear h h1
        go_enter Try.func22, Try.ntmps22
        go_wp2_with fail
        rw [← HW1.out]
        refine HMC.out.mono ?_
        rintro e w2 ⟨rfl, hb2⟩
        have HX2 := Lib.hid (HX.out.step hb2); have HL2 := Lib.hid (HL.out.step hb2)
        have q0 := HL2.out.l0; have q3 := HL2.out.l3; have q4 := HX2.out.r1
        clear hb2
        go_wp2_with fail
        go_ret
        exact ⟨rfl, HX2.out.b⟩
      · have e1 : decide (at_ < 0) = false := decide_eq_false h1
        by_cases h2 : mn ≤ at_
        · have e2 : decide (mn ≤ at_) = true := decide_eq_true h2
          clear h h1 h2
          go_enter Try.func22, Try.ntmps22
          go_wp2_with fail
          rw [← HW1.out]
          refine HMC.out.mono ?_
          rintro e w2 ⟨rfl, hb2⟩
          have HX2 := Lib.hid (HX.out.step hb2); have HL2 := Lib.hid (HL.out.step hb2)
          have q0 := HL2.out.l0; have q3 := HL2.out.l3; have q4 := HX2.out.r1
          clear hb2
          go_wp2_with fail
          go_ret
          exact ⟨rfl, HX2.out.b⟩
        · have e2 : decide (mn ≤ at_) = false := decide_eq_false h2
          have h3 : many < 0 := by rcases h with h | h | h | h | h <;> first | cases h | (rw [hm] at h; cases h) | exact absurd h h1 | exact absurd h h2 | exact h
          have e3 : decide (many < 0) = true := decide_eq_true h3
          clear h h1 h2 h3
          go_enter Try.func22, Try.ntmps22
          go_wp2_with fail
          rw [← HW1.out]
          refine HMC.out.mono ?_
          rintro e w2 ⟨rfl, hb2⟩
          have HX2 := Lib.hid (HX.out.step hb2); have HL2 := Lib.hid (HL.out.step hb2)
          have q0 := HL2.out.l0; have q3 := HL2.out.l3; have q4 := HX2.out.r1
          clear hb2
          go_wp2_with fail
          go_ret
          exact ⟨rfl, HX2.out.b⟩
/-- What Right says. -/
def rightR (l0 : List ByteArray) (l1 : List S88) (off : Bool) (fr mn at_ used first many : Int) : Bool :=
  if off = true ∨ mayR l0.length fr mn = false ∨ at_ < 0 ∨ mn ≤ at_ ∨ many < 0 then false else (((foundD l0 l1 fr mn at_ first many).1.length : Int) == many) && (((foundD l0 l1 fr mn at_ first many).2 : Int) == used)
def redo_Right.f (l0_0 : List ByteArray) (l0_1 : List S88) (a0_2 : Bool) (a1_0 a1_1 a2_0 a2_1 a2_2 a2_3 : Int) : Option Bool :=
  if DiskOk l0_0 l0_1 ∧ l0_0.length ≤ 10000 ∧ 0 ≤ a2_2 ∧ a2_2 < 18446744073709551616 ∧ a2_3 ≤ 9223372036854775807 ∧ ∀ s ∈ ringL l0_0 l0_1 a1_0.toNat a1_1.toNat, s.size = 64 then some (rightR l0_0 l0_1 a0_2 a1_0 a1_1 a2_0 a2_1 a2_2 a2_3) else none
theorem redo_Right.calls (A0_0 : Option Addr) (c0_0 : Nat) (l0_0 : List ByteArray) (A0_1 : Option Addr) (c0_1 : Nat) (l0_1 : List S88) (a0_2 : Bool) (a1_0 a1_1 a2_0 a2_1 a2_2 a2_3 : Int) (r : Bool) (w : World)
    (hr0_0 : Kd.C Kd.string w A0_0 l0_0.length l0_0) (hc0_0 : l0_0.length ≤ c0_0) (hr0_1 : Kd.C k88 w A0_1 l0_1.length l0_1) (hc0_1 : l0_1.length ≤ c0_1) (h : redo_Right.f l0_0 l0_1 a0_2 a1_0 a1_1 a2_0 a2_1 a2_2 a2_3 = some r) :
    Calls Try.prog 22 #[.agg #[.slice A0_0 l0_0.length c0_0, .slice A0_1 l0_1.length c0_1, .bool a0_2], .agg #[.int .i64 a1_0, .int .i64 a1_1], .agg #[.int .i64 a2_0, .int .i64 a2_1, .int .u64 a2_2, .int .i64 a2_3]] w fun e w' => e = .returned (.bool r) ∧ Below w.heap.size w w' := by
  unfold redo_Right.f at h
  split at h
  · rename_i hh
    obtain ⟨hok, q1, q7, q8, q11, q9⟩ := hh
    obtain rfl := Option.some.inj h
    unfold rightR
    split
    · rename_i hb
      exact right_fail A0_0 c0_0 l0_0.length A0_1 c0_1 l0_1.length a0_2 a1_0 a1_1 a2_0 a2_1 a2_2 a2_3 hok.2.1 w hb
    · rename_i hb
      have hoff : a0_2 = false := by cases a0_2 with
        | true => exact absurd (.inl rfl) hb
        | false => rfl
      subst hoff
      have hmy : mayR l0_0.length a1_0 a1_1 = true := by cases hm : mayR l0_0.length a1_0 a1_1 with
        | true => rfl
        | false => exact absurd (.inr (.inl hm)) hb
      have k1 : ¬ a2_0 < 0 := fun k => hb (.inr (.inr (.inl k)))
      have k2 : ¬ a1_1 ≤ a2_0 := fun k => hb (.inr (.inr (.inr (.inl k))))
      have k3 : ¬ a2_3 < 0 := fun k => hb (.inr (.inr (.inr (.inr k))))
      unfold mayR at hmy
      simp only [Bool.and_eq_true, decide_eq_true_eq] at hmy
      obtain ⟨m1, m2, m3, m4⟩ := hmy
      obtain ⟨fr, rfl⟩ := Int.eq_ofNat_of_zero_le m1
      obtain ⟨mn, rfl⟩ := Int.eq_ofNat_of_zero_le (show 0 ≤ a1_1 by omega)
      obtain ⟨at_, rfl⟩ := Int.eq_ofNat_of_zero_le (show 0 ≤ a2_0 by omega)
      obtain ⟨first, rfl⟩ := Int.eq_ofNat_of_zero_le q7
      obtain ⟨many, rfl⟩ := Int.eq_ofNat_of_zero_le (show 0 ≤ a2_3 by omega)
      exact right_main A0_0 c0_0 l0_0 A0_1 c0_1 l0_1 fr mn at_ first many a2_1 w hr0_0 hc0_0 hr0_1 hc0_1 hok (by omega) (by omega) (by omega) q9 (by omega) (by omega) (by omega)
  · cases h
end Go.Proofs.Ytcbfnfggnocndaa
end

section
/- Layer 5, walked: Drop. -/
set_option linter.unusedVariables false
set_option linter.unusedSimpArgs false
namespace Go.Proofs.Ytcbfnfggnocndaa
open Go.RowKit Go.Shelf Go.Proofs.Ytcbfnfggnocndaa.Q Go.Proofs.YtcbfnfggnocndaaW.PrintWords Go.Proofs.YtcbfnfggnocndaaW.PrintLast Go.Proofs.YtcbfnfggnocndaaW.PrintMore Math

/-- A log's cell of the call's own. -/
def LogBox (W : World) (b : Nat) (x y z v : Value) : Prop := W.heap[b]? = some (.cells #[x, y, z, v] 30 (0, 0))
theorem LogBox.facts {W : World} {b : Nat} {x y z v : Value} (h : LogBox W b x y z v) :
    W.cell? ⟨b, 0, none⟩ = some x ∧ W.cell? ⟨b, 1, none⟩ = some y ∧ W.cell? ⟨b, 2, none⟩ = some z ∧ W.cell? ⟨b, 3, none⟩ = some v ∧ W.frozen? ⟨b, 0, none⟩ = false ∧ W.frozen? ⟨b, 1, none⟩ = false ∧ W.frozen? ⟨b, 2, none⟩ = false ∧ W.frozen? ⟨b, 3, none⟩ = false := by
  refine ⟨by rw [blk_cell h]; rfl, by rw [blk_cell h]; rfl, by rw [blk_cell h]; rfl, by rw [blk_cell h]; rfl, blk_frozen h 0, blk_frozen h 1, blk_frozen h 2, blk_frozen h 3⟩
set_option maxHeartbeats 4000000 in
set_option maxRecDepth 1000000 in
theorem drop_main (A0 : Option Addr) (c0 : Nat) (l0 : List ByteArray) (A1 : Option Addr) (c1 : Nat) (l1 : List S88) (off : Bool) (fr mn at_ first many lmany : Nat) (used : Int) (w : World) (h0 : Kd.C Kd.string w A0 l0.length l0) (g0 : l0.length ≤ c0) (h1 : Kd.C k88 w A1 l1.length l1) (g1 : l1.length ≤ c1) (hok : DiskOk l0 l1)
    (hm : 1 ≤ mn) (hfm : fr + mn ≤ l0.length) (hmn : mn ≤ 10000) (hs : ∀ s ∈ ringL l0 l1 fr mn, s.size = 64) (hat : at_ < mn) (hf : first < 18446744073709551616) (hmy : many ≤ lmany) (hlm : lmany ≤ 9223372036854775807) :
    Calls Try.prog 26 #[.agg #[.slice A0 l0.length c0, .slice A1 l1.length c1, .bool off], .agg #[.int .i64 fr, .int .i64 mn], .agg #[.int .i64 at_, .int .i64 used, .int .u64 first, .int .i64 lmany], .int .i64 many] w fun e w' =>
      e = .returned (.tuple #[.agg #[.int .i64 (((at_ + (found (ringL l0 l1 fr mn) at_ first many).2) % mn : Nat) : Int), .int .i64 (wrap64 (used - ((found (ringL l0 l1 fr mn) at_ first many).2 : Int))), .int .u64 (((first + many) % 18446744073709551616 : Nat) : Int), .int .i64 ((lmany - many : Nat) : Int)], .int .i64 0]) ∧ Below w.heap.size w w' := by
  have hrl := ringL_len l0 l1 fr mn hfm
  obtain ⟨W0, hW0⟩ : ∃ W0, W0 = ((w.alloc (.cells #[.slice A0 l0.length c0, .slice A1 l1.length c1, .bool off] 25)).alloc (.cells #[.int .i64 fr, .int .i64 mn] 27)).alloc (.cells #[.int .i64 at_, .int .i64 used, .int .u64 first, .int .i64 lmany] 30) := ⟨_, rfl⟩
  obtain ⟨hx0, hl0, hz0⟩ := bx3_new w _ _ _ _ _ _ _ _ _ W0 hW0
  obtain ⟨W1, hW1⟩ : ∃ W1, W1 = W0.alloc (.cells #[.int .i64 0, .int .i64 0, .int .u64 0, .int .i64 0] 30) := ⟨_, rfl⟩
  have b1 := (Below.refl W0.heap.size W0).alloc (Nat.le_refl _) (.cells #[.int .i64 0, .int .i64 0, .int .u64 0, .int .i64 0] 30)
  have hbx : LogBox W1 (w.heap.size + 3) (.int .i64 0) (.int .i64 0) (.int .u64 0) (.int .i64 0) := by unfold LogBox; rw [← hz0, hW1]; exact heap_alloc_new W0 _
  rw [← hW1] at b1
  have hz1 : W1.heap.size = w.heap.size + 4 := by rw [hW1, World.size_alloc, hz0]
  have hx := hx0.step b1
  have hl := hl0.step b1
  have HXD : Hid (Bx2 w W1.drew _ _ _ _ _) := Lib.hid ⟨hx.d, hx.r, below_drew hx.b⟩
  have HLD : Hid (BxL w W1.drew _ _ _ _) := Lib.hid ⟨hl.l⟩
  have HZD : Hid (w.heap.size + 3 < W1.drew.heap.size) := Lib.hid (by have e : W1.drew.heap.size = W1.heap.size := rfl; omega)
  have HBX : Hid (LogBox W1.drew (w.heap.size + 3) (.int .i64 0) (.int .i64 0) (.int .u64 0) (.int .i64 0)) := Lib.hid hbx
  have hring := ring_calls A0 c0 l0 A1 c1 l1 off fr mn W1.drew (Kd.C_below h0 (below_drew hx.b)) g0 (Kd.C_below h1 (below_drew hx.b)) g1 hok hm hfm
  have heach : ∀ (A3 : Option Addr) (c3 : Nat) (w3 : World), RdS w3 A3 (ringL l0 l1 fr mn) → (ringL l0 l1 fr mn).length ≤ c3 → _ :=
    fun A3 c3 w3 hr hc => each_ring 46 #[] (ringL l0 l1 fr mn) at_ first many (fun _ _ => True) w3.heap.size A3 c3 w3 hr hc
      (fun ad h => by
        rcases hr with hr | ⟨ad2, h2, h3, _⟩
        · rw [hr] at hrl; simp at hrl; omega
        · rw [h] at h2; obtain rfl := Option.some.inj h2; omega) (by omega) (by omega) hs (by omega) hf (by omega) trivial (fun _ _ _ _ _ => trivial)
      (fun acc W s m _ _ _ => (nop2_calls W s m).mono fun e W' h => ⟨h.1, trivial, by rw [h.2]; exact KeepE.refl _ _ _⟩) nop2_enters
  have hnb : (found (ringL l0 l1 fr mn) at_ first many).2 ≤ (ringL l0 l1 fr mn).length := (goP_len (stR (ringL l0 l1 fr mn)) (ringL l0 l1 fr mn).length at_ first many (fun a m n => standsB_le _ m n) ((ringL l0 l1 fr mn).length + 1) [] 0 (Nat.le_refl 0) (Nat.zero_le _)).2
  rw [hrl] at hnb
  have HNB := Lib.hid hnb
  clear hnb
  have HRING := Lib.hid hring; have HEACH := Lib.hid heach; have HW1 := Lib.hid hW1; have HW0 := Lib.hid hW0
  have e1 : decide ((many : Int) < 0) = false := decide_eq_false (by omega)
  have e2 : decide ((lmany : Int) < (many : Int)) = false := decide_eq_false (by omega)
  have e2n : decide (lmany < many) = false := decide_eq_false (by omega)
  clear h0 h1 hx hl hz0 hz1 hx0 hl0 hW0 hW1 b1 hbx hring heach hok hs hrl
  go_enter Try.func26, Try.ntmps26
  go_wp2_with fail
  rw [← HW0.out, ← HW1.out]
  refine start_ (n := 14) (S := fun w' => w'.cell? ⟨w.heap.size, 0, none⟩ = some (.slice A0 l0.length c0) ∧ w'.cell? ⟨w.heap.size, 1, none⟩ = some (.slice A1 l1.length c1) ∧ w'.cell? ⟨w.heap.size, 2, none⟩ = some (.bool off) ∧ w'.cell? ⟨w.heap.size + 1, 0, none⟩ = some (.int .i64 (fr : Int)) ∧ w'.cell? ⟨w.heap.size + 1, 1, none⟩ = some (.int .i64 (mn : Int)) ∧ w'.cell? ⟨w.heap.size + 2, 0, none⟩ = some (.int .i64 (at_ : Int)) ∧ w'.cell? ⟨w.heap.size + 2, 2, none⟩ = some (.int .u64 (first : Int))) (ds := []) #[false, false, false, false, false, false, false, false, false, false, false, false, false, false] (by kernel_rfl) rfl rfl ⟨HXD.out.c0, HXD.out.c1, HXD.out.c2, HXD.out.r0, HXD.out.r1, HLD.out.l0, HLD.out.l2⟩ (fun hHeld => ?_)
  refine pure_ (i := 3) (N := some 25) (v := ?_) (a' := ?_) #[false, false, false, true, false, false, false, false, false, false, false, false, false, false] rfl rfl (by kernel_rfl) (fun _ _ _ h => h) (Or.inl ⟨by rfl, ?_⟩) ?_ ?_
  rotate_left
  · intro w'
    go_simp
    with_reducible rfl
  rotate_left
  · simp only [Act.put, List.setIfInBounds_toArray, List.set_cons_zero, List.set_cons_succ, i64_w, i32_w]
    rfl
  refine pure_ (i := 5) (N := some 27) (v := ?_) (a' := ?_) #[false, false, false, true, false, true, false, false, false, false, false, false, false, false] rfl rfl (by kernel_rfl) (fun _ _ _ h => h) (Or.inl ⟨by rfl, ?_⟩) ?_ ?_
  rotate_left
  · intro w'
    go_simp
    with_reducible rfl
  rotate_left
  · simp only [Act.put, List.setIfInBounds_toArray, List.set_cons_zero, List.set_cons_succ, i64_w, i32_w]
    rfl
  refine pure_ (i := 7) (N := some 29) (v := ?_) (a' := ?_) #[false, false, false, true, false, true, false, true, false, false, false, false, false, false] rfl rfl (by kernel_rfl) (fun _ _ _ h => h) (Or.inl ⟨by rfl, ?_⟩) ?_ ?_
  rotate_left
  · intro w'
    go_simp
    with_reducible rfl
  rotate_left
  · simp only [Act.put, List.setIfInBounds_toArray, List.set_cons_zero, List.set_cons_succ, i64_w, i32_w]
    rfl
  refine take_ (i := 0) (N := some 22) (v := ?_) (a' := ?_) #[true, false, false, true, false, true, false, true, false, false, false, false, false, false] rfl rfl (by kernel_rfl) (fun _ _ _ h => h) (Or.inl ⟨by rfl, ?_⟩) hHeld ?_ ?_
  rotate_left
  · rintro w' ⟨s0, s1, s2, s3, s4, s5, s6⟩
    go_simp
    with_reducible rfl
  rotate_left
  · simp only [Act.put, List.setIfInBounds_toArray, List.set_cons_zero, List.set_cons_succ, i64_w, i32_w]
    rfl
  refine take_ (i := 1) (N := some 23) (v := ?_) (a' := ?_) #[true, true, false, true, false, true, false, true, false, false, false, false, false, false] rfl rfl (by kernel_rfl) (fun _ _ _ h => h) (Or.inl ⟨by rfl, ?_⟩) hHeld ?_ ?_
  rotate_left
  · rintro w' ⟨s0, s1, s2, s3, s4, s5, s6⟩
    go_simp
    with_reducible rfl
  rotate_left
  · simp only [Act.put, List.setIfInBounds_toArray, List.set_cons_zero, List.set_cons_succ, i64_w, i32_w]
    rfl
  refine take_ (i := 4) (N := some 26) (v := ?_) (a' := ?_) #[true, true, false, true, true, true, false, true, false, false, false, false, false, false] rfl rfl (by kernel_rfl) (fun _ _ _ h => h) (Or.inl ⟨by rfl, ?_⟩) hHeld ?_ ?_
  rotate_left
  · rintro w' ⟨s0, s1, s2, s3, s4, s5, s6⟩
    go_simp
    with_reducible rfl
  rotate_left
  · simp only [Act.put, List.setIfInBounds_toArray, List.set_cons_zero, List.set_cons_succ, i64_w, i32_w]
    rfl
  refine take_ (i := 6) (N := some 28) (v := ?_) (a' := ?_) #[true, true, false, true, true, true, true, true, false, false, false, false, false, false] rfl rfl (by kernel_rfl) (fun _ _ _ h => h) (Or.inl ⟨by rfl, ?_⟩) hHeld ?_ ?_
  rotate_left
  · rintro w' ⟨s0, s1, s2, s3, s4, s5, s6⟩
    go_simp
    with_reducible rfl
  rotate_left
  · simp only [Act.put, List.setIfInBounds_toArray, List.set_cons_zero, List.set_cons_succ, i64_w, i32_w]
    rfl
  refine one_ (i := 2) (N := some 24) #[true, true, true, true, true, true, true, true, false, false, false, false, false, false] rfl rfl (by kernel_rfl) (by decide) (fun K hK => ?_)
  refine goes_ Try.func39 (by kernel_rfl) rfl #[.agg #[.slice A0 l0.length c0, .slice A1 l1.length c1, .bool off], .agg #[.int .i64 fr, .int .i64 mn]] (by rfl) rfl rfl (by simp only [List.map_toArray, List.map_cons, List.map_nil]; rfl) ?_
  with_reducible refine (HRING.out).mono ?_
  rintro e w3 ⟨A3, c3, rfl, hr3, hc3, hA3, hb3⟩
  refine ⟨_, rfl, ?_⟩
  have HX3 := Lib.hid (HXD.out.step hb3)
  have HL3 := Lib.hid (HLD.out.step hb3)
  have HR3 := Lib.hid hr3
  have HZ3 := Lib.hid (Nat.lt_of_lt_of_le HZD.out hb3.size)
  have HBX3 : Hid (LogBox w3 _ _ _ _ _) := Lib.hid ((hb3.block _ (blk_lt HBX.out)).trans HBX.out)
  clear hr3 hA3 hb3
  refine hK.out _ _ ⟨HX3.out.c0, HX3.out.c1, HX3.out.c2, HX3.out.r0, HX3.out.r1, HL3.out.l0, HL3.out.l2⟩ (fun hHeld => ?_)
  clear hK K
  refine norm_ (a' := ?_) ?_ ?_
  rotate_left
  · show Act.put _ (some 24) _ = _
    simp only [Act.put, List.setIfInBounds_toArray, List.set_cons_zero, List.set_cons_succ, i64_w, i32_w]
    rfl
  refine one_ (i := 8) (N := some 30) #[true, true, true, true, true, true, true, true, true, false, false, false, false, false] rfl rfl (by kernel_rfl) (by decide) (fun K hK => ?_)
  refine goes_ Try.func38 (by kernel_rfl) rfl #[.slice A3 (ringL l0 l1 fr mn).length c3, .int .i64 at_, .int .u64 first, .int .i64 many, .func (.func 46) #[] #[]] (by rfl) rfl rfl (by simp only [List.map_toArray, List.map_cons, List.map_nil]; rfl) ?_
  with_reducible refine ((HEACH.out A3 c3 w3 HR3.out hc3)).mono ?_
  rintro e w4 ⟨rfl, _, hk4⟩
  refine ⟨_, rfl, ?_⟩
  have HX4 := Lib.hid (HX3.out.keep hk4 (by have := HZ3.out; omega) (by have := HZ3.out; omega))
  have HL4 := Lib.hid (HL3.out.keep hk4 (by have := HZ3.out; omega) (by have := HZ3.out; omega))
  have HBX4 : Hid (LogBox w4 _ _ _ _ _) := Lib.hid ((hk4.block _ HZ3.out (by have := HZ3.out; omega)).trans HBX3.out)
  clear hk4
  refine hK.out _ _ ⟨HX4.out.c0, HX4.out.c1, HX4.out.c2, HX4.out.r0, HX4.out.r1, HL4.out.l0, HL4.out.l2⟩ (fun hHeld => ?_)
  clear hK K
  refine norm_ (a' := ?_) ?_ ?_
  rotate_left
  · show Act.put _ (some 30) _ = _
    simp only [Act.put, List.setIfInBounds_toArray, List.set_cons_zero, List.set_cons_succ, i64_w, i32_w]
    rfl
  refine pure_ (i := 9) (N := some 21) (v := ?_) (a' := ?_) #[true, true, true, true, true, true, true, true, true, true, false, false, false, false] rfl rfl (by kernel_rfl) (fun _ _ _ h => h) (Or.inl ⟨by rfl, ?_⟩) ?_ ?_
  rotate_left
  · intro w'
    go_simp
    with_reducible rfl
  rotate_left
  · simp only [Act.put, List.setIfInBounds_toArray, List.set_cons_zero, List.set_cons_succ, i64_w, i32_w]
    rfl
  refine pure_ (i := 10) (N := some 31) (v := ?_) (a' := ?_) #[true, true, true, true, true, true, true, true, true, true, true, false, false, false] rfl rfl (by kernel_rfl) (fun _ _ _ h => h) (Or.inl ⟨by rfl, ?_⟩) ?_ ?_
  rotate_left
  · intro w'
    go_simp
    with_reducible rfl
  rotate_left
  · simp only [Act.put, List.setIfInBounds_toArray, List.set_cons_zero, List.set_cons_succ, i64_w, i32_w]
    rfl
  refine pure_ (i := 11) (N := some 32) (v := ?_) (a' := ?_) #[true, true, true, true, true, true, true, true, true, true, true, true, false, false] rfl rfl (by kernel_rfl) (fun _ _ _ h => h) (Or.inl ⟨by rfl, ?_⟩) ?_ ?_
  rotate_left
  · intro w'
    go_simp
    with_reducible rfl
  rotate_left
  · simp only [Act.put, List.setIfInBounds_toArray, List.set_cons_zero, List.set_cons_succ, i64_w, i32_w]
    rfl
  refine pure_ (i := 12) (N := some 10) (v := ?_) (a' := ?_) #[true, true, true, true, true, true, true, true, true, true, true, true, true, false] rfl rfl (by kernel_rfl) (fun _ _ _ h => h) (Or.inl ⟨by rfl, ?_⟩) ?_ ?_
  rotate_left
  · intro w'
    go_simp
    with_reducible rfl
  rotate_left
  · simp only [Act.put, List.setIfInBounds_toArray, List.set_cons_zero, List.set_cons_succ, i64_w, i32_w]
    rfl
  refine pure_ (i := 13) (N := some 11) (v := ?_) (a' := ?_) #[true, true, true, true, true, true, true, true, true, true, true, true, true, true] rfl rfl (by kernel_rfl) (fun _ _ _ h => h) (Or.inl ⟨by rfl, ?_⟩) ?_ ?_
  rotate_left
  · intro w'
    go_simp
    with_reducible rfl
  rotate_left
  · simp only [Act.put, List.setIfInBounds_toArray, List.set_cons_zero, List.set_cons_succ, i64_w, i32_w]
    rfl
  refine done_ (by kernel_rfl) ?_
  obtain ⟨n2, hn2⟩ : ∃ n2, n2 = (found (ringL l0 l1 fr mn) at_ first many).2 := ⟨_, rfl⟩
  have hS4 := HBX4.out.facts
  have HS4 := Lib.hid hS4
  have HN2 := Lib.hid hn2
  have hn2l : n2 ≤ mn := by rw [hn2]; exact HNB.out
  rw [← hn2]
  clear hS4 hn2
  have hrem : Int.tmod ((at_ : Int) + (n2 : Int)) (mn : Int) = (((at_ + n2) % mn : Nat) : Int) := by
    rw [show (at_ : Int) + (n2 : Int) = ((at_ + n2 : Nat) : Int) by omega]; rfl
  have hlz2 : ((mn : Int) == 0) = false := beq_eq_false_iff_ne.2 (by omega)
  have hlz : ¬ ((mn : Int) = 0) := by omega
  have hmz : ¬ mn = 0 := by omega
  have hw0 : wrap64 ((at_ : Int) + (n2 : Int)) = (at_ : Int) + (n2 : Int) := w64 (by omega) (by omega)
  have hw1 : wrap64 ((lmany : Int) - (many : Int)) = (lmany : Int) - (many : Int) := w64 (by clear hw0; omega) (by clear hw0; omega)
  have hu0 : IntKind.u64.wrap (many : Int) = (many : Int) := u64_in (by omega)
  have hu1 := u64_add first many
  go_wp2_with fail
  refine start_ (n := 23) (S := fun w' => w'.cell? ⟨w.heap.size + 1, 1, none⟩ = some (.int .i64 (mn : Int)) ∧ w'.cell? ⟨w.heap.size + 2, 0, none⟩ = some (.int .i64 (at_ : Int)) ∧ w'.cell? ⟨w.heap.size + 2, 1, none⟩ = some (.int .i64 used) ∧ w'.cell? ⟨w.heap.size + 2, 2, none⟩ = some (.int .u64 (first : Int)) ∧ w'.cell? ⟨w.heap.size + 2, 3, none⟩ = some (.int .i64 (lmany : Int))) (ds := [21]) #[false, false, false, false, false, false, false, false, false, false, false, false, false, false, false, false, false, false, false, false, false, false, false] (by kernel_rfl) rfl rfl ⟨HX4.out.r1, HL4.out.l0, HL4.out.l1, HL4.out.l2, HL4.out.l3⟩ (fun hHeld => ?_)
  refine pure_ (i := 0) (N := some 33) (v := ?_) (a' := ?_) #[true, false, false, false, false, false, false, false, false, false, false, false, false, false, false, false, false, false, false, false, false, false, false] rfl rfl (by kernel_rfl) (fun _ _ _ h => h) (Or.inl ⟨by rfl, ?_⟩) ?_ ?_
  rotate_left
  · intro w'
    go_simp
    with_reducible rfl
  rotate_left
  · simp only [Act.put, List.setIfInBounds_toArray, List.set_cons_zero, List.set_cons_succ, i64_w, i32_w]
    rfl
  refine pure_ (i := 2) (N := some 35) (v := ?_) (a' := ?_) #[true, false, true, false, false, false, false, false, false, false, false, false, false, false, false, false, false, false, false, false, false, false, false] rfl rfl (by kernel_rfl) (fun _ _ _ h => h) (Or.inl ⟨by rfl, ?_⟩) ?_ ?_
  rotate_left
  · intro w'
    go_simp
    with_reducible rfl
  rotate_left
  · simp only [Act.put, List.setIfInBounds_toArray, List.set_cons_zero, List.set_cons_succ, i64_w, i32_w]
    rfl
  refine pure_ (i := 4) (N := some 37) (v := ?_) (a' := ?_) #[true, false, true, false, true, false, false, false, false, false, false, false, false, false, false, false, false, false, false, false, false, false, false] rfl rfl (by kernel_rfl) (fun _ _ _ h => h) (Or.inl ⟨by rfl, ?_⟩) ?_ ?_
  rotate_left
  · intro w'
    go_simp
    with_reducible rfl
  rotate_left
  · simp only [Act.put, List.setIfInBounds_toArray, List.set_cons_zero, List.set_cons_succ, i64_w, i32_w]
    rfl
  refine pure_ (i := 7) (N := some 40) (v := ?_) (a' := ?_) #[true, false, true, false, true, false, false, true, false, false, false, false, false, false, false, false, false, false, false, false, false, false, false] rfl rfl (by kernel_rfl) (fun _ _ _ h => h) (Or.inl ⟨by rfl, ?_⟩) ?_ ?_
  rotate_left
  · intro w'
    go_simp
    with_reducible rfl
  rotate_left
  · simp only [Act.put, List.setIfInBounds_toArray, List.set_cons_zero, List.set_cons_succ, i64_w, i32_w]
    rfl
  refine pure_ (i := 9) (N := some 42) (v := ?_) (a' := ?_) #[true, false, true, false, true, false, false, true, false, true, false, false, false, false, false, false, false, false, false, false, false, false, false] rfl rfl (by kernel_rfl) (fun _ _ _ h => h) (Or.inl ⟨by rfl, ?_⟩) ?_ ?_
  rotate_left
  · intro w'
    go_simp
    with_reducible rfl
  rotate_left
  · simp only [Act.put, List.setIfInBounds_toArray, List.set_cons_zero, List.set_cons_succ, i64_w, i32_w]
    rfl
  refine pure_ (i := 11) (N := some 44) (v := ?_) (a' := ?_) #[true, false, true, false, true, false, false, true, false, true, false, true, false, false, false, false, false, false, false, false, false, false, false] rfl rfl (by kernel_rfl) (fun _ _ _ h => h) (Or.inl ⟨by rfl, ?_⟩) ?_ ?_
  rotate_left
  · intro w'
    go_simp
    with_reducible rfl
  rotate_left
  · simp only [Act.put, List.setIfInBounds_toArray, List.set_cons_zero, List.set_cons_succ, i64_w, i32_w]
    rfl
  refine pure_ (i := 13) (N := some 46) (v := ?_) (a' := ?_) #[true, false, true, false, true, false, false, true, false, true, false, true, false, true, false, false, false, false, false, false, false, false, false] rfl rfl (by kernel_rfl) (fun _ _ _ h => h) (Or.inl ⟨by rfl, ?_⟩) ?_ ?_
  rotate_left
  · intro w'
    go_simp
    with_reducible rfl
  rotate_left
  · simp only [Act.put, List.setIfInBounds_toArray, List.set_cons_zero, List.set_cons_succ, i64_w, i32_w]
    rfl
  refine pure_ (i := 14) (N := some 47) (v := ?_) (a' := ?_) #[true, false, true, false, true, false, false, true, false, true, false, true, false, true, true, false, false, false, false, false, false, false, false] rfl rfl (by kernel_rfl) (fun _ _ _ h => h) (Or.inl ⟨by rfl, ?_⟩) ?_ ?_
  rotate_left
  · intro w'
    go_simp
    with_reducible rfl
  rotate_left
  · simp only [Act.put, List.setIfInBounds_toArray, List.set_cons_zero, List.set_cons_succ, i64_w, i32_w]
    rfl
  refine pure_ (i := 16) (N := some 49) (v := ?_) (a' := ?_) #[true, false, true, false, true, false, false, true, false, true, false, true, false, true, true, false, true, false, false, false, false, false, false] rfl rfl (by kernel_rfl) (fun _ _ _ h => h) (Or.inl ⟨by rfl, ?_⟩) ?_ ?_
  rotate_left
  · intro w'
    go_simp
    with_reducible rfl
  rotate_left
  · simp only [Act.put, List.setIfInBounds_toArray, List.set_cons_zero, List.set_cons_succ, i64_w, i32_w]
    rfl
  refine pure_ (i := 18) (N := some 51) (v := ?_) (a' := ?_) #[true, false, true, false, true, false, false, true, false, true, false, true, false, true, true, false, true, false, true, false, false, false, false] rfl rfl (by kernel_rfl) (fun _ _ _ h => h) (Or.inl ⟨by rfl, ?_⟩) ?_ ?_
  rotate_left
  · intro w'
    go_simp
    with_reducible rfl
  rotate_left
  · simp only [Act.put, List.setIfInBounds_toArray, List.set_cons_zero, List.set_cons_succ, i64_w, i32_w]
    rfl
  refine take_ (i := 1) (N := some 34) (v := ?_) (a' := ?_) #[true, true, true, false, true, false, false, true, false, true, false, true, false, true, true, false, true, false, true, false, false, false, false] rfl rfl (by kernel_rfl) (fun _ _ _ h => h) (Or.inl ⟨by rfl, ?_⟩) hHeld ?_ ?_
  rotate_left
  · rintro w' ⟨s0, s1, s2, s3, s4⟩
    go_simp
    with_reducible rfl
  rotate_left
  · simp only [Act.put, List.setIfInBounds_toArray, List.set_cons_zero, List.set_cons_succ, i64_w, i32_w]
    rfl
  refine pure_ (i := 3) (N := some 36) (v := ?_) (a' := ?_) #[true, true, true, true, true, false, false, true, false, true, false, true, false, true, true, false, true, false, true, false, false, false, false] rfl rfl (by kernel_rfl) (fun _ _ _ h => h) (Or.inl ⟨by rfl, ?_⟩) ?_ ?_
  rotate_left
  · intro w'
    go_simp
    with_reducible rfl
  rotate_left
  · simp only [Act.put, List.setIfInBounds_toArray, List.set_cons_zero, List.set_cons_succ, i64_w, i32_w]
    rfl
  refine take_ (i := 5) (N := some 38) (v := ?_) (a' := ?_) #[true, true, true, true, true, true, false, true, false, true, false, true, false, true, true, false, true, false, true, false, false, false, false] rfl rfl (by kernel_rfl) (fun _ _ _ h => h) (Or.inl ⟨by rfl, ?_⟩) hHeld ?_ ?_
  rotate_left
  · rintro w' ⟨s0, s1, s2, s3, s4⟩
    go_simp
    with_reducible rfl
  rotate_left
  · simp only [Act.put, List.setIfInBounds_toArray, List.set_cons_zero, List.set_cons_succ, i64_w, i32_w]
    rfl
  refine pure_ (i := 6) (N := some 39) (v := ?_) (a' := ?_) #[true, true, true, true, true, true, true, true, false, true, false, true, false, true, true, false, true, false, true, false, false, false, false] rfl rfl (by kernel_rfl) (fun _ _ _ h => h) (Or.inl ⟨by rfl, ?_⟩) ?_ ?_
  rotate_left
  · intro w'
    go_simp
    with_reducible rfl
  rotate_left
  · simp only [Act.put, List.setIfInBounds_toArray, List.set_cons_zero, List.set_cons_succ, i64_w, i32_w]
    rfl
  refine take_ (i := 8) (N := some 41) (v := ?_) (a' := ?_) #[true, true, true, true, true, true, true, true, true, true, false, true, false, true, true, false, true, false, true, false, false, false, false] rfl rfl (by kernel_rfl) (fun _ _ _ h => h) (Or.inl ⟨by rfl, ?_⟩) hHeld ?_ ?_
  rotate_left
  · rintro w' ⟨s0, s1, s2, s3, s4⟩
    go_simp
    with_reducible rfl
  rotate_left
  · simp only [Act.put, List.setIfInBounds_toArray, List.set_cons_zero, List.set_cons_succ, i64_w, i32_w]
    rfl
  refine pure_ (i := 10) (N := some 43) (v := ?_) (a' := ?_) #[true, true, true, true, true, true, true, true, true, true, true, true, false, true, true, false, true, false, true, false, false, false, false] rfl rfl (by kernel_rfl) (fun _ _ _ h => h) (Or.inl ⟨by rfl, ?_⟩) ?_ ?_
  rotate_left
  · intro w'
    go_simp
    with_reducible rfl
  rotate_left
  · simp only [Act.put, List.setIfInBounds_toArray, List.set_cons_zero, List.set_cons_succ, i64_w, i32_w]
    rfl
  refine take_ (i := 12) (N := some 45) (v := ?_) (a' := ?_) #[true, true, true, true, true, true, true, true, true, true, true, true, true, true, true, false, true, false, true, false, false, false, false] rfl rfl (by kernel_rfl) (fun _ _ _ h => h) (Or.inl ⟨by rfl, ?_⟩) hHeld ?_ ?_
  rotate_left
  · rintro w' ⟨s0, s1, s2, s3, s4⟩
    go_simp
    with_reducible rfl
  rotate_left
  · simp only [Act.put, List.setIfInBounds_toArray, List.set_cons_zero, List.set_cons_succ, i64_w, i32_w]
    rfl
  refine pure_ (i := 15) (N := some 48) (v := ?_) (a' := ?_) #[true, true, true, true, true, true, true, true, true, true, true, true, true, true, true, true, true, false, true, false, false, false, false] rfl rfl (by kernel_rfl) (fun _ _ _ h => h) (Or.inl ⟨by rfl, ?_⟩) ?_ ?_
  rotate_left
  · intro w'
    go_simp
    with_reducible rfl
  rotate_left
  · simp only [Act.put, List.setIfInBounds_toArray, List.set_cons_zero, List.set_cons_succ, i64_w, i32_w]
    rfl
  refine take_ (i := 17) (N := some 50) (v := ?_) (a' := ?_) #[true, true, true, true, true, true, true, true, true, true, true, true, true, true, true, true, true, true, true, false, false, false, false] rfl rfl (by kernel_rfl) (fun _ _ _ h => h) (Or.inl ⟨by rfl, ?_⟩) hHeld ?_ ?_
  rotate_left
  · rintro w' ⟨s0, s1, s2, s3, s4⟩
    go_simp
    with_reducible rfl
  rotate_left
  · simp only [Act.put, List.setIfInBounds_toArray, List.set_cons_zero, List.set_cons_succ, i64_w, i32_w]
    rfl
  refine pure_ (i := 19) (N := some 52) (v := ?_) (a' := ?_) #[true, true, true, true, true, true, true, true, true, true, true, true, true, true, true, true, true, true, true, true, false, false, false] rfl rfl (by kernel_rfl) (fun _ _ _ h => h) (Or.inl ⟨by rfl, ?_⟩) ?_ ?_
  rotate_left
  · intro w'
    go_simp
    with_reducible rfl
  rotate_left
  · simp only [Act.put, List.setIfInBounds_toArray, List.set_cons_zero, List.set_cons_succ, i64_w, i32_w]
    rfl
  refine pure_ (i := 20) (N := some 53) (v := ?_) (a' := ?_) #[true, true, true, true, true, true, true, true, true, true, true, true, true, true, true, true, true, true, true, true, true, false, false] rfl rfl (by kernel_rfl) (fun _ _ _ h => h) (Or.inl ⟨by rfl, ?_⟩) ?_ ?_
  rotate_left
  · intro w'
    go_simp
    with_reducible rfl
  rotate_left
  · simp only [Act.put, List.setIfInBounds_toArray, List.set_cons_zero, List.set_cons_succ, i64_w, i32_w]
    rfl
  refine last_ (i := 21) (N := none) #[true, true, true, true, true, true, true, true, true, true, true, true, true, true, true, true, true, true, true, true, true, true, false] rfl rfl (by kernel_rfl) (by decide) (fun K hK => ?_)
  have z0 := HS4.out.1
  have z1 := HS4.out.2.1
  have z2 := HS4.out.2.2.1
  have z3 := HS4.out.2.2.2.1
  have y0 := HS4.out.2.2.2.2.1
  have y1 := HS4.out.2.2.2.2.2.1
  have y2 := HS4.out.2.2.2.2.2.2.1
  have y3 := HS4.out.2.2.2.2.2.2.2
  refine skip_ (w1 := ?_) (by rfl) rfl ?_ ?_
  rotate_left
  · go_simp
    rfl
  refine hK.out _ _ ?_
  clear hK K
  refine pure_ (i := 22) (N := some 9) (v := ?_) (a' := ?_) #[true, true, true, true, true, true, true, true, true, true, true, true, true, true, true, true, true, true, true, true, true, true, true] rfl rfl (by kernel_rfl) (fun _ _ _ h => h) (Or.inl ⟨by rfl, ?_⟩) ?_ ?_
  rotate_left
  · intro w'
    go_simp
    with_reducible rfl
  rotate_left
  · simp only [Act.put, List.setIfInBounds_toArray, List.set_cons_zero, List.set_cons_succ, i64_w, i32_w]
    rfl
  refine done_ (by kernel_rfl) ?_
  go_wp2_with fail
  obtain ⟨z0, z1, z2, z3, y0, y1, y2, y3⟩ := HS4.out
  refine bodyPost_ret (v := .tuple #[.agg #[.int .i64 (((at_ : Int) + (n2 : Int)) % (mn : Int)), .int .i64 (wrap64 (used - (n2 : Int))), .int .u64 (((first : Int) + (many : Int)) % 18446744073709551616), .int .i64 ((lmany : Int) - (many : Int))], .int .i64 0]) (by simp [results, Try.results26, go_sem, z0, z1, z2, z3]) rfl ⟨?_, ?_⟩
  · rw [← HN2.out, show (((at_ + n2) % mn : Nat) : Int) = ((at_ : Int) + (n2 : Int)) % (mn : Int) by rw [Int.natCast_emod, Int.natCast_add], show (((first + many) % 18446744073709551616 : Nat) : Int) = ((first : Int) + (many : Int)) % 18446744073709551616 by omega, show ((lmany - many : Nat) : Int) = (lmany : Int) - (many : Int) by omega]
  · exact below_drew ((((HX4.out.b.setCell (p := ⟨w.heap.size + 1 + 1 + 1, 0, none⟩) (by show w.heap.size ≤ w.heap.size + 1 + 1 + 1; omega) _).setCell (p := ⟨w.heap.size + 1 + 1 + 1, 1, none⟩) (by show w.heap.size ≤ w.heap.size + 1 + 1 + 1; omega) _).setCell (p := ⟨w.heap.size + 1 + 1 + 1, 2, none⟩) (by show w.heap.size ≤ w.heap.size + 1 + 1 + 1; omega) _).setCell (p := ⟨w.heap.size + 1 + 1 + 1, 3, none⟩) (by show w.heap.size ≤ w.heap.size + 1 + 1 + 1; omega) _)
end Go.Proofs.Ytcbfnfggnocndaa
end

section
/- Layer 5, walked: Drop where it is refused; what a call of it comes to. -/
set_option linter.unusedVariables false
set_option linter.unusedSimpArgs false
namespace Go.Proofs.Ytcbfnfggnocndaa
open Go.RowKit Go.Shelf Go.Proofs.Ytcbfnfggnocndaa.Q Go.Proofs.YtcbfnfggnocndaaW.PrintWords Go.Proofs.YtcbfnfggnocndaaW.PrintLast Go.Proofs.YtcbfnfggnocndaaW.PrintMore Math

set_option maxHeartbeats 2000000 in
set_option maxRecDepth 1000000 in
theorem drop_fail (A0 : Option Addr) (c0 n0 : Nat) (A1 : Option Addr) (c1 n1 : Nat) (off : Bool) (fr mn at_ used first lmany many : Int) (w : World) (h : many < 0 ∨ lmany < many) :
    Calls Try.prog 26 #[.agg #[.slice A0 n0 c0, .slice A1 n1 c1, .bool off], .agg #[.int .i64 fr, .int .i64 mn], .agg #[.int .i64 at_, .int .i64 used, .int .u64 first, .int .i64 lmany], .int .i64 many] w fun e w' =>
      e = .returned (.tuple #[.agg #[.int .i64 at_, .int .i64 used, .int .u64 first, .int .i64 lmany], .int .i64 1]) ∧ Below w.heap.size w w' := by
  obtain ⟨W1, hW1⟩ : ∃ W1, W1 = ((w.alloc (.cells #[.slice A0 n0 c0, .slice A1 n1 c1, .bool off] 25)).alloc (.cells #[.int .i64 fr, .int .i64 mn] 27)).alloc (.cells #[.int .i64 at_, .int .i64 used, .int .u64 first, .int .i64 lmany] 30) := ⟨_, rfl⟩
  obtain ⟨hx, hl, hz⟩ := bx3_new w _ _ _ _ _ _ _ _ _ W1 hW1
  obtain ⟨W2, hW2⟩ : ∃ W2, W2 = W1.alloc (.cells #[.int .i64 at_, .int .i64 used, .int .u64 first, .int .i64 lmany] 30) := ⟨_, rfl⟩
  have b1 := (Below.refl W1.heap.size W1).alloc (Nat.le_refl _) (.cells #[.int .i64 at_, .int .i64 used, .int .u64 first, .int .i64 lmany] 30)
  have hbx : LogBox W2 (w.heap.size + 1 + 1 + 1) (.int .i64 at_) (.int .i64 used) (.int .u64 first) (.int .i64 lmany) := by unfold LogBox; rw [hW2, show w.heap.size + 1 + 1 + 1 = W1.heap.size by omega]; exact heap_alloc_new W1 _
  rw [← hW2] at b1
  have HX := Lib.hid (hx.step b1); have HL := Lib.hid hl; have HW1 := Lib.hid hW1; have HW2 := Lib.hid hW2; have HBX := Lib.hid hbx
  have q0 := HL.out.l0; have q1 := HL.out.l1; have q2 := HL.out.l2; have q3 := HL.out.l3
  clear hx hl hz hW1 hW2 b1 hbx
  by_cases h1 : many < 0
  · have e1 : decide (many < 0) = true := decide_eq_true h1
    clear h h1
    go_enter Try.func26, Try.ntmps26
    go_wp2_with fail
    rw [← HW1.out, ← HW2.out]
    obtain ⟨z0, z1, z2, z3, _⟩ := HBX.out.facts
    exact bodyPost_ret (v := .tuple #[.agg #[.int .i64 at_, .int .i64 used, .int .u64 first, .int .i64 lmany], .int .i64 1]) (by simp [results, Try.results26, go_sem, z0, z1, z2, z3]) rfl ⟨rfl, HX.out.b⟩
  · have e1 : decide (many < 0) = false := decide_eq_false h1
    have h2 : lmany < many := h.resolve_left h1
    have e2 : decide (lmany < many) = true := decide_eq_true h2
    clear h h1 h2
    go_enter Try.func26, Try.ntmps26
    go_wp2_with fail
    rw [← HW1.out, ← HW2.out]
    obtain ⟨z0, z1, z2, z3, _⟩ := HBX.out.facts
    exact bodyPost_ret (v := .tuple #[.agg #[.int .i64 at_, .int .i64 used, .int .u64 first, .int .i64 lmany], .int .i64 1]) (by simp [results, Try.results26, go_sem, z0, z1, z2, z3]) rfl ⟨rfl, HX.out.b⟩
def redo_Drop.f (l0_0 : List ByteArray) (l0_1 : List S88) (a0_2 : Bool) (a1_0 a1_1 a2_0 a2_1 a2_2 a2_3 a3 : Int) : Option (Int × Int × Int × Int × Int) :=
  if a3 < 0 ∨ a2_3 < a3 then some (a2_0, a2_1, a2_2, a2_3, 1)
  else if RedOk l0_0 l0_1 a1_0 a1_1 a2_0 a2_2 ∧ a2_3 ≤ 9223372036854775807 then
    some ((a2_0 + ((foundD l0_0 l0_1 a1_0 a1_1 a2_0 a2_2 a3).2 : Int)) % a1_1, wrap64 (a2_1 - ((foundD l0_0 l0_1 a1_0 a1_1 a2_0 a2_2 a3).2 : Int)), (a2_2 + a3) % 18446744073709551616, a2_3 - a3, 0)
  else none
theorem redo_Drop.calls (A0_0 : Option Addr) (c0_0 : Nat) (l0_0 : List ByteArray) (A0_1 : Option Addr) (c0_1 : Nat) (l0_1 : List S88) (a0_2 : Bool) (a1_0 a1_1 a2_0 a2_1 a2_2 a2_3 a3 r1 r2 r3 r4 r5 : Int) (w : World)
    (hr0_0 : Kd.C Kd.string w A0_0 l0_0.length l0_0) (hc0_0 : l0_0.length ≤ c0_0) (hr0_1 : Kd.C k88 w A0_1 l0_1.length l0_1) (hc0_1 : l0_1.length ≤ c0_1) (h : redo_Drop.f l0_0 l0_1 a0_2 a1_0 a1_1 a2_0 a2_1 a2_2 a2_3 a3 = some (r1, r2, r3, r4, r5)) :
    Calls Try.prog 26 #[.agg #[.slice A0_0 l0_0.length c0_0, .slice A0_1 l0_1.length c0_1, .bool a0_2], .agg #[.int .i64 a1_0, .int .i64 a1_1], .agg #[.int .i64 a2_0, .int .i64 a2_1, .int .u64 a2_2, .int .i64 a2_3], .int .i64 a3] w fun e w' =>
      e = .returned (.tuple #[.agg #[.int .i64 r1, .int .i64 r2, .int .u64 r3, .int .i64 r4], .int .i64 r5]) ∧ Below w.heap.size w w' := by
  unfold redo_Drop.f at h
  split at h
  · rename_i hh
    have h := Option.some.inj h
    simp only [Prod.mk.injEq] at h
    obtain ⟨rfl, rfl, rfl, rfl, rfl⟩ := h
    exact drop_fail A0_0 c0_0 l0_0.length A0_1 c0_1 l0_1.length a0_2 a1_0 a1_1 a2_0 a2_1 a2_2 a2_3 a3 w hh
  · rename_i hh
    split at h
    · rename_i hk
      obtain ⟨⟨hok, q1, q2, q3, q4, q5, q6, q7, q8, q9⟩, q10⟩ := hk
      have h := Option.some.inj h
      simp only [Prod.mk.injEq] at h
      obtain ⟨rfl, rfl, rfl, rfl, rfl⟩ := h
      obtain ⟨fr, rfl⟩ := Int.eq_ofNat_of_zero_le q3
      obtain ⟨mn, rfl⟩ := Int.eq_ofNat_of_zero_le (show 0 ≤ a1_1 by omega)
      obtain ⟨at_, rfl⟩ := Int.eq_ofNat_of_zero_le q5
      obtain ⟨first, rfl⟩ := Int.eq_ofNat_of_zero_le q7
      obtain ⟨many, rfl⟩ := Int.eq_ofNat_of_zero_le (show 0 ≤ a3 by omega)
      obtain ⟨lmany, rfl⟩ := Int.eq_ofNat_of_zero_le (show 0 ≤ a2_3 by omega)
      refine (drop_main A0_0 c0_0 l0_0 A0_1 c0_1 l0_1 a0_2 fr mn at_ first many lmany a2_1 w hr0_0 hc0_0 hr0_1 hc0_1 hok (by omega) (by omega) (by omega) q9 (by omega) (by omega) (by omega) (by omega)).mono ?_
      rintro e w' ⟨rfl, hb⟩
      refine ⟨?_, hb⟩
      unfold foundD
      simp only [Int.toNat_natCast]
      generalize (found (ringL l0_0 l0_1 fr mn) at_ first many).2 = nn
      rw [show (((at_ + nn) % mn : Nat) : Int) = ((at_ : Int) + (nn : Int)) % (mn : Int) by rw [Int.natCast_emod, Int.natCast_add], show (((first + many) % 18446744073709551616 : Nat) : Int) = ((first : Int) + (many : Int)) % 18446744073709551616 by omega, show ((lmany - many : Nat) : Int) = (lmany : Int) - (many : Int) by omega]
    · cases h
end Go.Proofs.Ytcbfnfggnocndaa
end

section
/- Layer 5, walked: Scan. -/
set_option linter.unusedVariables false
set_option linter.unusedSimpArgs false
namespace Go.Proofs.Ytcbfnfggnocndaa
open Go.RowKit Go.Shelf Go.Proofs.Ytcbfnfggnocndaa.Q Go.Proofs.YtcbfnfggnocndaaW.PrintWords Go.Proofs.YtcbfnfggnocndaaW.PrintLast Go.Proofs.YtcbfnfggnocndaaW.PrintMore Math

set_option maxHeartbeats 2000000 in
set_option maxRecDepth 1000000 in
theorem scan1_calls (B Rb : Nat) (acc : List ByteArray) (W : World) (s : ByteArray) (m : Int) (h : Coll B Rb acc W) (hn : acc.length ≤ 1000000) :
    Calls Try.prog 40 (#[.string s, .int .i64 m] ++ #[.pointer (some ⟨Rb, 0, none⟩)]) W fun e W' => e = .returned (.tuple #[]) ∧ Coll B Rb (acc ++ [s]) W' ∧ KeepE B Rb W W' := by
  obtain ⟨i0, hi0, hz0, hz1, hz2⟩ := info_parts info_str5
  obtain ⟨⟨v, h1, h2⟩, hRb, hle⟩ := h
  have hc0 : W.cell? ⟨Rb, 0, none⟩ = some v := by rw [blk_cell h1]; rfl
  have hz := blk_lt h1
  have H1 := Lib.hid h1; have H2 := Lib.hid h2
  obtain ⟨xs, hxs⟩ : ∃ xs, xs = acc.map Value.string := ⟨_, rfl⟩
  rw [← hxs] at h2
  have HX := Lib.hid hxs; have HO := Lib.hid h2
  have hmx : xs ++ [.string s] = (acc ++ [s]).map Value.string := by rw [hxs, List.map_append]; rfl
  have HMX := Lib.hid hmx
  obtain ⟨n, hn0⟩ : ∃ n, n = acc.length := ⟨_, rfl⟩
  rw [← hn0] at HO hn
  have HN := Lib.hid hn0
  clear h1 h2 hxs hmx hn0
  show Calls Try.prog 40 #[.string s, .int .i64 m, .pointer (some ⟨Rb, 0, none⟩)] W _
  go_enter Try.func40, Try.ntmps40
  go_wp2_with (at_builtin; refine wpList_append_own _ rfl _ _ 22 rfl B 9 i0 _ 1 16 Try.underlying22 hi0 hz0 hz1 hz2 rfl (by decide) v n xs rfl (HO.out.alloc _) ⟨W.heap.size, 0, none⟩ 1 1 [.string s] rfl rfl (World.news_of_block (cs := #[.string s]) (t := 9) (fr := (0, 0)) (heap_alloc_new W _)) (by intro u hu; rw [List.mem_singleton.1 hu]; rfl) (by unfold maxLen; omega) (by omega) (by rw [World.size_alloc]; omega) ?_)
  intro v' w5 hown hgrow _
  obtain ⟨g4, c4, rfl⟩ := ownsRow_succ hown
  rw [HMX.out] at hown
  have hown1 := HO.out
  have hne : ∀ k, k < B → some k ≠ v.ownBlock := fun k hk e => by have := (hown1.lt k e.symm).1; omega
  have hb5 : One w5 Rb v 22 := by
    unfold One
    rw [hgrow.block Rb (by rw [World.size_alloc]; omega) (hne Rb hRb), Below.heap_alloc _ _ _ hz]
    exact H1.out
  have hc5 := hb5.cell
  have hf5 := hb5.free
  have HB5 := Lib.hid hb5; have HO5 := Lib.hid hown; have HG5 := Lib.hid hgrow; have HNE := Lib.hid hne
  clear hb5 hown hgrow hown1 hne hc0
  go_wp2_with fail
  go_end0
  refine ⟨rfl, ⟨⟨_, HB5.out.set, ?_⟩, hRb, ?_⟩, ?_⟩
  · rw [List.length_append, ← HN.out]
    exact own_far HO5.out hRb
  · have h1 := HG5.out.size
    rw [World.size_alloc] at h1
    have h2 : (w5.setCell ⟨Rb, 0, none⟩ (.slice (some ⟨g4, 0, none⟩) (n + 1) c4)).heap.size = w5.heap.size := by simp [World.setCell]
    rw [h2]; omega
  · have h1 := HG5.out.size
    rw [World.size_alloc] at h1
    have h2 : (w5.setCell ⟨Rb, 0, none⟩ (.slice (some ⟨g4, 0, none⟩) (n + 1) c4)).heap.size = w5.heap.size := by simp [World.setCell]
    refine ⟨HG5.out.os, HG5.out.tape, HG5.out.output, by rw [h2]; omega, fun k hk hr => ?_⟩
    rw [Below.heap_setCell _ _ _ _ (show k ≠ (⟨Rb, 0, none⟩ : Addr).block from hr), HG5.out.block k (by rw [World.size_alloc]; omega) (HNE.out k hk), Below.heap_alloc _ _ _ (by omega)]
theorem scan1_enters : ∀ args W, (callFunc 40 args).run Try.prog W = .ok (.enter 40 args) W := enters_of Try.func40 (by kernel_rfl) rfl
theorem own_set4 {w : World} {base n c : Nat} {e : TypeId} {v x y z u : Value} {xs : List Value} (h : w.ownsRow base e 1 v n xs) (hc : c < base) :
    ((((w.setCell ⟨c, 0, none⟩ x).setCell ⟨c, 1, none⟩ y).setCell ⟨c, 2, none⟩ z).setCell ⟨c, 3, none⟩ u).drew.ownsRow base e 1 v n xs :=
  own_move h (fun k hk => by
    have hk2 := own_base h k hk
    show ((((w.setCell ⟨c, 0, none⟩ x).setCell ⟨c, 1, none⟩ y).setCell ⟨c, 2, none⟩ z).setCell ⟨c, 3, none⟩ u).heap[k]? = _
    rw [heap_setCell_other _ ⟨c, 3, none⟩ k _ (show k ≠ c by omega), heap_setCell_other _ ⟨c, 2, none⟩ k _ (show k ≠ c by omega), heap_setCell_other _ ⟨c, 1, none⟩ k _ (show k ≠ c by omega), heap_setCell_other _ ⟨c, 0, none⟩ k _ (show k ≠ c by omega)])
set_option maxHeartbeats 4000000 in
set_option maxRecDepth 1000000 in
theorem scan_main (A0 : Option Addr) (c0 : Nat) (l0 : List ByteArray) (A1 : Option Addr) (c1 : Nat) (l1 : List S88) (fr mn at_ first : Nat) (w : World) (h0 : Kd.C Kd.string w A0 l0.length l0) (g0 : l0.length ≤ c0) (h1 : Kd.C k88 w A1 l1.length l1) (g1 : l1.length ≤ c1) (hok : DiskOk l0 l1)
    (hm : 1 ≤ mn) (hfm : fr + mn ≤ l0.length) (hmn : mn ≤ 10000) (hs : ∀ s ∈ ringL l0 l1 fr mn, s.size = 64) (hat : at_ < mn) (hf : first < 18446744073709551616) :
    Calls Try.prog 17 #[.agg #[.slice A0 l0.length c0, .slice A1 l1.length c1, .bool false], .agg #[.int .i64 fr, .int .i64 mn], .int .i64 at_, .int .u64 first] w fun e w' =>
      ∃ v, e = .returned (.tuple #[.agg #[.int .i64 at_, .int .i64 (found (ringL l0 l1 fr mn) at_ first mn).2, .int .u64 first, .int .i64 (found (ringL l0 l1 fr mn) at_ first mn).1.length], v, .int .i64 0]) ∧ w'.ownsRow w.heap.size 9 1 v (found (ringL l0 l1 fr mn) at_ first mn).1.length ((found (ringL l0 l1 fr mn) at_ first mn).1.map Value.string) ∧ Below w.heap.size w w' := by
  have hrl := ringL_len l0 l1 fr mn hfm
  obtain ⟨W1, hW1⟩ : ∃ W1, W1 = ((w.alloc (.cells #[.slice A0 l0.length c0, .slice A1 l1.length c1, .bool false] 25)).alloc (.cells #[.int .i64 fr, .int .i64 mn] 27)).alloc (.cells #[.int .i64 0, .int .i64 0, .int .u64 0, .int .i64 0] 30) := ⟨_, rfl⟩
  obtain ⟨hx, hl, hz⟩ := bx3_new w _ _ _ _ _ _ _ _ _ W1 hW1
  have hmay : mayR l0.length fr mn = true := by
    unfold mayR
    rw [decide_eq_true (by omega), decide_eq_true (by omega), decide_eq_true (by omega), decide_eq_true (by omega)]; rfl
  have hmc := may_calls A0 c0 l0.length A1 c1 l1.length false fr mn hok.2.1 W1
  rw [hmay] at hmc
  have hring := fun W (hb : Below w.heap.size w W) => ring_calls A0 c0 l0 A1 c1 l1 false fr mn W (Kd.C_below h0 hb) g0 (Kd.C_below h1 hb) g1 hok hm hfm
  have heach : ∀ (Rb : Nat) (A3 : Option Addr) (c3 : Nat) (w3 : World), RdS w3 A3 (ringL l0 l1 fr mn) → (ringL l0 l1 fr mn).length ≤ c3 → (∀ ad, A3 = some ad → Rb < ad.block) → One w3 Rb (.slice none 0 0) 22 → _ :=
    fun Rb A3 c3 w3 hr hc hA ho => each_ring 40 #[.pointer (some ⟨Rb, 0, none⟩)] (ringL l0 l1 fr mn) at_ first mn (Coll w3.heap.size Rb) Rb A3 c3 w3 hr hc
      (fun ad h => by have := hA ad h; omega) (by omega) (by omega) hs (by omega) hf (by omega) ⟨⟨_, ho, World.ownsRow_nil _ _ _ _⟩, ho.lt, Nat.le_refl _⟩ (fun _ _ _ h hb => h.below hb)
      (fun acc W s m hl hI _ => scan1_calls _ _ acc W s m hI (by omega)) scan1_enters
  have HRINGF := Lib.hid hring; have HEACH := Lib.hid heach; have HMC := Lib.hid hmc; have HX := Lib.hid hx; have HL := Lib.hid hl; have HZ := Lib.hid hz; have HW1 := Lib.hid hW1
  have e1 : decide ((at_ : Int) < 0) = false := decide_eq_false (by omega)
  have e2 : decide ((mn : Int) ≤ (at_ : Int)) = false := decide_eq_false (by omega)
  have e2n : decide (mn ≤ at_) = false := decide_eq_false (by omega)
  clear h0 h1 hx hl hz hW1 hmc hring heach hok hs hrl hmay
  go_enter Try.func17, Try.ntmps17
  go_wp2_with fail
  rw [← HW1.out]
  refine HMC.out.mono ?_
  rintro e w2 ⟨rfl, hb2⟩
  have hz2 : w.heap.size + 3 ≤ w2.heap.size := by rw [← HZ.out]; exact hb2.size
  have hx2 := HX.out.step hb2
  have hl2 := HL.out.step hb2
  have q4 := hx2.r1
  obtain ⟨W3, hW3⟩ : ∃ W3, W3 = w2.alloc (.cells #[.slice none 0 0] 22) := ⟨_, rfl⟩
  have b3 := (Below.refl w2.heap.size w2).alloc (Nat.le_refl _) (.cells #[.slice none 0 0] 22)
  have ho3 : One W3 w2.heap.size (.slice none 0 0) 22 := by unfold One; rw [hW3]; exact heap_alloc_new w2 _
  rw [← hW3] at b3
  have hx3 := hx2.step b3
  have hl3 := hl2.step b3
  have HXD : Hid (Bx2 w W3.drew _ _ _ _ _) := Lib.hid ⟨hx3.d, hx3.r, below_drew hx3.b⟩
  have HLD : Hid (BxL w W3.drew _ _ _ _) := Lib.hid ⟨hl3.l⟩
  have HCD : Hid (One W3.drew w2.heap.size (.slice none 0 0) 22) := Lib.hid ho3
  have HRING := Lib.hid (HRINGF.out W3.drew (below_drew hx3.b))
  have HZ2 := Lib.hid hz2; have HW3 := Lib.hid hW3
  clear hb2 hx2 hl2 hW3 b3 ho3 hx3 hl3 hz2 HMC HX HL HRINGF
  go_wp2_with fail
  rw [← HW3.out]
  refine start_ (n := 14) (S := fun w' => w'.cell? ⟨w.heap.size, 0, none⟩ = some (.slice A0 l0.length c0) ∧ w'.cell? ⟨w.heap.size, 1, none⟩ = some (.slice A1 l1.length c1) ∧ w'.cell? ⟨w.heap.size, 2, none⟩ = some (.bool false) ∧ w'.cell? ⟨w.heap.size + 1, 0, none⟩ = some (.int .i64 (fr : Int)) ∧ w'.cell? ⟨w.heap.size + 1, 1, none⟩ = some (.int .i64 (mn : Int))) (ds := []) #[false, false, false, false, false, false, false, false, false, false, false, false, false, false] (by kernel_rfl) rfl rfl ⟨HXD.out.c0, HXD.out.c1, HXD.out.c2, HXD.out.r0, HXD.out.r1⟩ (fun hHeld => ?_)
  refine pure_ (i := 3) (N := some 38) (v := ?_) (a' := ?_) #[false, false, false, true, false, false, false, false, false, false, false, false, false, false] rfl rfl (by kernel_rfl) (fun _ _ _ h => h) (Or.inl ⟨by rfl, ?_⟩) ?_ ?_
  rotate_left
  · intro w'
    go_simp
    with_reducible rfl
  rotate_left
  · simp only [Act.put, List.setIfInBounds_toArray, List.set_cons_zero, List.set_cons_succ, i64_w, i32_w]
    rfl
  refine pure_ (i := 4) (N := some 39) (v := ?_) (a' := ?_) #[false, false, false, true, true, false, false, false, false, false, false, false, false, false] rfl rfl (by kernel_rfl) (fun _ _ _ h => h) (Or.inl ⟨by rfl, ?_⟩) ?_ ?_
  rotate_left
  · intro w'
    go_simp
    with_reducible rfl
  rotate_left
  · simp only [Act.put, List.setIfInBounds_toArray, List.set_cons_zero, List.set_cons_succ, i64_w, i32_w]
    rfl
  refine pure_ (i := 5) (N := some 40) (v := ?_) (a' := ?_) #[false, false, false, true, true, true, false, false, false, false, false, false, false, false] rfl rfl (by kernel_rfl) (fun _ _ _ h => h) (Or.inl ⟨by rfl, ?_⟩) ?_ ?_
  rotate_left
  · intro w'
    go_simp
    with_reducible rfl
  rotate_left
  · simp only [Act.put, List.setIfInBounds_toArray, List.set_cons_zero, List.set_cons_succ, i64_w, i32_w]
    rfl
  refine pure_ (i := 7) (N := some 42) (v := ?_) (a' := ?_) #[false, false, false, true, true, true, false, true, false, false, false, false, false, false] rfl rfl (by kernel_rfl) (fun _ _ _ h => h) (Or.inl ⟨by rfl, ?_⟩) ?_ ?_
  rotate_left
  · intro w'
    go_simp
    with_reducible rfl
  rotate_left
  · simp only [Act.put, List.setIfInBounds_toArray, List.set_cons_zero, List.set_cons_succ, i64_w, i32_w]
    rfl
  refine take_ (i := 0) (N := some 35) (v := ?_) (a' := ?_) #[true, false, false, true, true, true, false, true, false, false, false, false, false, false] rfl rfl (by kernel_rfl) (fun _ _ _ h => h) (Or.inl ⟨by rfl, ?_⟩) hHeld ?_ ?_
  rotate_left
  · rintro w' ⟨s0, s1, s2, s3, s4⟩
    go_simp
    with_reducible rfl
  rotate_left
  · simp only [Act.put, List.setIfInBounds_toArray, List.set_cons_zero, List.set_cons_succ, i64_w, i32_w]
    rfl
  refine take_ (i := 1) (N := some 36) (v := ?_) (a' := ?_) #[true, true, false, true, true, true, false, true, false, false, false, false, false, false] rfl rfl (by kernel_rfl) (fun _ _ _ h => h) (Or.inl ⟨by rfl, ?_⟩) hHeld ?_ ?_
  rotate_left
  · rintro w' ⟨s0, s1, s2, s3, s4⟩
    go_simp
    with_reducible rfl
  rotate_left
  · simp only [Act.put, List.setIfInBounds_toArray, List.set_cons_zero, List.set_cons_succ, i64_w, i32_w]
    rfl
  refine take_ (i := 6) (N := some 41) (v := ?_) (a' := ?_) #[true, true, false, true, true, true, true, true, false, false, false, false, false, false] rfl rfl (by kernel_rfl) (fun _ _ _ h => h) (Or.inl ⟨by rfl, ?_⟩) hHeld ?_ ?_
  rotate_left
  · rintro w' ⟨s0, s1, s2, s3, s4⟩
    go_simp
    with_reducible rfl
  rotate_left
  · simp only [Act.put, List.setIfInBounds_toArray, List.set_cons_zero, List.set_cons_succ, i64_w, i32_w]
    rfl
  refine one_ (i := 2) (N := some 37) #[true, true, true, true, true, true, true, true, false, false, false, false, false, false] rfl rfl (by kernel_rfl) (by decide) (fun K hK => ?_)
  refine goes_ Try.func39 (by kernel_rfl) rfl #[.agg #[.slice A0 l0.length c0, .slice A1 l1.length c1, .bool false], .agg #[.int .i64 fr, .int .i64 mn]] (by rfl) rfl rfl (by simp only [List.map_toArray, List.map_cons, List.map_nil]; rfl) ?_
  with_reducible refine (HRING.out).mono ?_
  rintro e w3 ⟨A3, c3, rfl, hr3, hc3, hA3, hb3⟩
  refine ⟨_, rfl, ?_⟩
  have HX3 := Lib.hid (HXD.out.step hb3)
  have HL3 := Lib.hid (HLD.out.step hb3)
  have HC3 := Lib.hid (HCD.out.keep hb3 HCD.out.lt)
  have HR3 := Lib.hid hr3
  have HA3 : Hid (∀ ad, A3 = some ad → w2.heap.size < ad.block) := Lib.hid (fun ad h => Nat.lt_of_lt_of_le HCD.out.lt (hA3 ad h))
  clear hr3 hA3 hb3
  refine hK.out _ _ ⟨HX3.out.c0, HX3.out.c1, HX3.out.c2, HX3.out.r0, HX3.out.r1⟩ (fun hHeld => ?_)
  clear hK K
  refine norm_ (a' := ?_) ?_ ?_
  rotate_left
  · show Act.put _ (some 37) _ = _
    simp only [Act.put, List.setIfInBounds_toArray, List.set_cons_zero, List.set_cons_succ, i64_w, i32_w]
    rfl
  refine one_ (i := 8) (N := some 43) #[true, true, true, true, true, true, true, true, true, false, false, false, false, false] rfl rfl (by kernel_rfl) (by decide) (fun K hK => ?_)
  refine goes_ Try.func38 (by kernel_rfl) rfl #[.slice A3 (ringL l0 l1 fr mn).length c3, .int .i64 at_, .int .u64 first, .int .i64 mn, .func (.func 40) #[] #[.pointer (some ⟨w2.heap.size, 0, none⟩)]] (by rfl) rfl rfl (by simp only [List.map_toArray, List.map_cons, List.map_nil]; rfl) ?_
  with_reducible refine ((HEACH.out w2.heap.size A3 c3 w3 HR3.out hc3 HA3.out HC3.out)).mono ?_
  rintro e w4 ⟨rfl, hi4, hk4⟩
  refine ⟨_, rfl, ?_⟩
  have HC4 := Lib.hid hi4
  have HX4 := Lib.hid (HX3.out.keep hk4 (by have := HC3.out.lt; have := HZ2.out; omega) (by have := HZ2.out; omega))
  have HL4 := Lib.hid (HL3.out.keep hk4 (by have := HC3.out.lt; have := HZ2.out; omega) (by have := HZ2.out; omega))
  clear hi4 hk4
  refine hK.out _ _ ⟨HX4.out.c0, HX4.out.c1, HX4.out.c2, HX4.out.r0, HX4.out.r1⟩ (fun hHeld => ?_)
  clear hK K
  refine norm_ (a' := ?_) ?_ ?_
  rotate_left
  · show Act.put _ (some 43) _ = _
    simp only [Act.put, List.setIfInBounds_toArray, List.set_cons_zero, List.set_cons_succ, i64_w, i32_w]
    rfl
  refine pure_ (i := 9) (N := some 34) (v := ?_) (a' := ?_) #[true, true, true, true, true, true, true, true, true, true, false, false, false, false] rfl rfl (by kernel_rfl) (fun _ _ _ h => h) (Or.inl ⟨by rfl, ?_⟩) ?_ ?_
  rotate_left
  · intro w'
    go_simp
    with_reducible rfl
  rotate_left
  · simp only [Act.put, List.setIfInBounds_toArray, List.set_cons_zero, List.set_cons_succ, i64_w, i32_w]
    rfl
  refine pure_ (i := 10) (N := some 44) (v := ?_) (a' := ?_) #[true, true, true, true, true, true, true, true, true, true, true, false, false, false] rfl rfl (by kernel_rfl) (fun _ _ _ h => h) (Or.inl ⟨by rfl, ?_⟩) ?_ ?_
  rotate_left
  · intro w'
    go_simp
    with_reducible rfl
  rotate_left
  · simp only [Act.put, List.setIfInBounds_toArray, List.set_cons_zero, List.set_cons_succ, i64_w, i32_w]
    rfl
  refine pure_ (i := 11) (N := some 45) (v := ?_) (a' := ?_) #[true, true, true, true, true, true, true, true, true, true, true, true, false, false] rfl rfl (by kernel_rfl) (fun _ _ _ h => h) (Or.inl ⟨by rfl, ?_⟩) ?_ ?_
  rotate_left
  · intro w'
    go_simp
    with_reducible rfl
  rotate_left
  · simp only [Act.put, List.setIfInBounds_toArray, List.set_cons_zero, List.set_cons_succ, i64_w, i32_w]
    rfl
  refine pure_ (i := 12) (N := some 12) (v := ?_) (a' := ?_) #[true, true, true, true, true, true, true, true, true, true, true, true, true, false] rfl rfl (by kernel_rfl) (fun _ _ _ h => h) (Or.inl ⟨by rfl, ?_⟩) ?_ ?_
  rotate_left
  · intro w'
    go_simp
    with_reducible rfl
  rotate_left
  · simp only [Act.put, List.setIfInBounds_toArray, List.set_cons_zero, List.set_cons_succ, i64_w, i32_w]
    rfl
  refine pure_ (i := 13) (N := some 13) (v := ?_) (a' := ?_) #[true, true, true, true, true, true, true, true, true, true, true, true, true, true] rfl rfl (by kernel_rfl) (fun _ _ _ h => h) (Or.inl ⟨by rfl, ?_⟩) ?_ ?_
  rotate_left
  · intro w'
    go_simp
    with_reducible rfl
  rotate_left
  · simp only [Act.put, List.setIfInBounds_toArray, List.set_cons_zero, List.set_cons_succ, i64_w, i32_w]
    rfl
  refine done_ (by kernel_rfl) ?_
  obtain ⟨v, hv1, hv2⟩ := HC4.out.v
  have HV := Lib.hid hv2; have HV1 := Lib.hid hv1
  clear hv1 hv2
  obtain ⟨n2, hn2⟩ : ∃ n2, n2 = (found (ringL l0 l1 fr mn) at_ first mn).2 := ⟨_, rfl⟩
  obtain ⟨n1, hn1⟩ : ∃ n1, n1 = (found (ringL l0 l1 fr mn) at_ first mn).1.length := ⟨_, rfl⟩
  have HN2 := Lib.hid hn2; have HN1 := Lib.hid hn1
  rw [← hn2, ← hn1]
  clear hn2 hn1
  have HS4 := Lib.hid (LogBox.facts (show LogBox w4 (w.heap.size + 1 + 1) _ _ _ _ from HL4.out.l))
  have hvc : w4.cell? ⟨w2.heap.size, 0, none⟩ = some v := by rw [blk_cell HV1.out]; rfl
  have HVC := Lib.hid hvc
  clear hvc
  go_wp2_with fail
  refine start_ (n := 9) (S := fun w' => w'.cell? ⟨w2.heap.size, 0, none⟩ = some v) (ds := []) #[false, false, false, false, false, false, false, false, false] (by kernel_rfl) rfl rfl (HVC.out) (fun hHeld => ?_)
  refine pure_ (i := 0) (N := some 46) (v := ?_) (a' := ?_) #[true, false, false, false, false, false, false, false, false] rfl rfl (by kernel_rfl) (fun _ _ _ h => h) (Or.inl ⟨by rfl, ?_⟩) ?_ ?_
  rotate_left
  · intro w'
    go_simp
    with_reducible rfl
  rotate_left
  · simp only [Act.put, List.setIfInBounds_toArray, List.set_cons_zero, List.set_cons_succ, i64_w, i32_w]
    rfl
  refine pure_ (i := 1) (N := some 47) (v := ?_) (a' := ?_) #[true, true, false, false, false, false, false, false, false] rfl rfl (by kernel_rfl) (fun _ _ _ h => h) (Or.inl ⟨by rfl, ?_⟩) ?_ ?_
  rotate_left
  · intro w'
    go_simp
    with_reducible rfl
  rotate_left
  · simp only [Act.put, List.setIfInBounds_toArray, List.set_cons_zero, List.set_cons_succ, i64_w, i32_w]
    rfl
  refine pure_ (i := 2) (N := some 48) (v := ?_) (a' := ?_) #[true, true, true, false, false, false, false, false, false] rfl rfl (by kernel_rfl) (fun _ _ _ h => h) (Or.inl ⟨by rfl, ?_⟩) ?_ ?_
  rotate_left
  · intro w'
    go_simp
    with_reducible rfl
  rotate_left
  · simp only [Act.put, List.setIfInBounds_toArray, List.set_cons_zero, List.set_cons_succ, i64_w, i32_w]
    rfl
  refine pure_ (i := 3) (N := some 49) (v := ?_) (a' := ?_) #[true, true, true, true, false, false, false, false, false] rfl rfl (by kernel_rfl) (fun _ _ _ h => h) (Or.inl ⟨by rfl, ?_⟩) ?_ ?_
  rotate_left
  · intro w'
    go_simp
    with_reducible rfl
  rotate_left
  · simp only [Act.put, List.setIfInBounds_toArray, List.set_cons_zero, List.set_cons_succ, i64_w, i32_w]
    rfl
  refine pure_ (i := 4) (N := some 50) (v := ?_) (a' := ?_) #[true, true, true, true, true, false, false, false, false] rfl rfl (by kernel_rfl) (fun _ _ _ h => h) (Or.inl ⟨by rfl, ?_⟩) ?_ ?_
  rotate_left
  · intro w'
    go_simp
    with_reducible rfl
  rotate_left
  · simp only [Act.put, List.setIfInBounds_toArray, List.set_cons_zero, List.set_cons_succ, i64_w, i32_w]
    rfl
  refine take_ (i := 5) (N := some 51) (v := ?_) (a' := ?_) #[true, true, true, true, true, true, false, false, false] rfl rfl (by kernel_rfl) (fun _ _ _ h => h) (Or.inl ⟨by rfl, ?_⟩) hHeld ?_ ?_
  rotate_left
  · intro w' s0
    go_simp
    with_reducible rfl
  rotate_left
  · simp only [Act.put, List.setIfInBounds_toArray, List.set_cons_zero, List.set_cons_succ, i64_w, i32_w]
    rfl
  refine one_ (i := 6) (N := none) #[true, true, true, true, true, true, true, false, false] rfl rfl (by kernel_rfl) (by decide) (fun K hK => ?_)
  have z0 := HS4.out.1
  have z1 := HS4.out.2.1
  have z2 := HS4.out.2.2.1
  have z3 := HS4.out.2.2.2.1
  have y0 := HS4.out.2.2.2.2.1
  have y1 := HS4.out.2.2.2.2.2.1
  have y2 := HS4.out.2.2.2.2.2.2.1
  have y3 := HS4.out.2.2.2.2.2.2.2
  refine skip_ (w1 := ?_) (by rfl) rfl ?_ ?_
  rotate_left
  · go_simp
    rfl
  refine hK.out _ _ ((by have hz := HZ2.out; show World.cell? (World.setCell (World.setCell (World.setCell (World.setCell w4 _ _) _ _) _ _) _ _) _ = _; exact (cell_far (show w2.heap.size ≠ w.heap.size + 1 + 1 by omega) _).trans ((cell_far (show w2.heap.size ≠ w.heap.size + 1 + 1 by omega) _).trans ((cell_far (show w2.heap.size ≠ w.heap.size + 1 + 1 by omega) _).trans ((cell_far (show w2.heap.size ≠ w.heap.size + 1 + 1 by omega) _).trans HVC.out))))) (fun hHeld => ?_)
  clear hK K
  refine pure_ (i := 7) (N := some 9) (v := ?_) (a' := ?_) #[true, true, true, true, true, true, true, true, false] rfl rfl (by kernel_rfl) (fun _ _ _ h => h) (Or.inl ⟨by rfl, ?_⟩) ?_ ?_
  rotate_left
  · intro w'
    go_simp
    with_reducible rfl
  rotate_left
  · simp only [Act.put, List.setIfInBounds_toArray, List.set_cons_zero, List.set_cons_succ, i64_w, i32_w]
    rfl
  refine pure_ (i := 8) (N := some 10) (v := ?_) (a' := ?_) #[true, true, true, true, true, true, true, true, true] rfl rfl (by kernel_rfl) (fun _ _ _ h => h) (Or.inl ⟨by rfl, ?_⟩) ?_ ?_
  rotate_left
  · intro w'
    go_simp
    with_reducible rfl
  rotate_left
  · simp only [Act.put, List.setIfInBounds_toArray, List.set_cons_zero, List.set_cons_succ, i64_w, i32_w]
    rfl
  refine done_ (by kernel_rfl) ?_
  go_wp2_with fail
  obtain ⟨z0, z1, z2, z3, y0, y1, y2, y3⟩ := HS4.out
  refine bodyPost_ret (v := .tuple #[.agg #[.int .i64 (at_ : Int), .int .i64 (n2 : Int), .int .u64 (first : Int), .int .i64 (n1 : Int)], v, .int .i64 0]) (by simp [results, Try.results17, go_sem, z0, z1, z2, z3]) rfl ⟨v, by rw [← HN2.out, ← HN1.out], ?_, ?_⟩
  · have hz := HZ2.out
    have hz3 := HC4.out.lt
    exact own_weaken (own_set4 HV.out (show w.heap.size + 1 + 1 < w3.heap.size by omega)) (show w.heap.size ≤ w3.heap.size by omega)
  · exact below_drew ((((HX4.out.b.setCell (p := ⟨w.heap.size + 1 + 1, 0, none⟩) (by show w.heap.size ≤ w.heap.size + 1 + 1; omega) _).setCell (p := ⟨w.heap.size + 1 + 1, 1, none⟩) (by show w.heap.size ≤ w.heap.size + 1 + 1; omega) _).setCell (p := ⟨w.heap.size + 1 + 1, 2, none⟩) (by show w.heap.size ≤ w.heap.size + 1 + 1; omega) _).setCell (p := ⟨w.heap.size + 1 + 1, 3, none⟩) (by show w.heap.size ≤ w.heap.size + 1 + 1; omega) _)
set_option maxHeartbeats 2000000 in
set_option maxRecDepth 1000000 in
theorem scan_fail (A0 : Option Addr) (c0 n0 : Nat) (A1 : Option Addr) (c1 n1 : Nat) (off : Bool) (fr mn at_ first : Int) (hn : n0 ≤ 1000000000) (w : World)
    (h : off = true ∨ mayR n0 fr mn = false ∨ at_ < 0 ∨ mn ≤ at_) :
    Calls Try.prog 17 #[.agg #[.slice A0 n0 c0, .slice A1 n1 c1, .bool off], .agg #[.int .i64 fr, .int .i64 mn], .int .i64 at_, .int .u64 first] w fun e w' => e = .returned (.tuple #[.agg #[.int .i64 0, .int .i64 0, .int .u64 0, .int .i64 0], .slice none 0 0, .int .i64 (if off = true then 19 else 1)]) ∧ Below w.heap.size w w' := by
  obtain ⟨W1, hW1⟩ : ∃ W1, W1 = ((w.alloc (.cells #[.slice A0 n0 c0, .slice A1 n1 c1, .bool off] 25)).alloc (.cells #[.int .i64 fr, .int .i64 mn] 27)).alloc (.cells #[.int .i64 0, .int .i64 0, .int .u64 0, .int .i64 0] 30) := ⟨_, rfl⟩
  obtain ⟨hx, hl, hz⟩ := bx3_new w _ _ _ _ _ _ _ _ _ W1 hW1
  have hmc := may_calls A0 c0 n0 A1 c1 n1 off fr mn hn W1
  have HMC := Lib.hid hmc; have HX := Lib.hid hx; have HL := Lib.hid hl; have HW1 := Lib.hid hW1
  clear hmc hx hl hz hW1
  cases off with
  | true =>
    clear h
    go_enter Try.func17, Try.ntmps17
    go_wp2_with fail
    rw [← HW1.out]
    obtain ⟨z0, z1, z2, z3, y0, y1, y2, y3⟩ := LogBox.facts (show LogBox W1 (w.heap.size + 1 + 1) _ _ _ _ from HL.out.l)
    exact bodyPost_ret (v := .tuple #[.agg #[.int .i64 0, .int .i64 0, .int .u64 0, .int .i64 0], .slice none 0 0, .int .i64 19]) (by simp [results, Try.results17, go_sem, z0, z1, z2, z3]) rfl ⟨rfl, HX.out.b⟩
  | false =>
    cases hm : mayR n0 fr mn with
    | false =>
      rw [hm] at HMC
      clear h
      go_enter Try.func17, Try.ntmps17
      go_wp2_with fail
      rw [← HW1.out]
      refine HMC.out.mono ?_
      rintro e w2 ⟨rfl, hb2⟩
      have HX2 := Lib.hid (HX.out.step hb2)
      obtain ⟨z0, z1, z2, z3, y0, y1, y2, y3⟩ := LogBox.facts (show LogBox w2 (w.heap.size + 1 + 1) _ _ _ _ from (HL.out.step hb2).l)
      have q4 := HX2.out.r1
      clear hb2
      go_wp2_with fail
      refine bodyPost_ret (v := .tuple #[.agg #[.int .i64 0, .int .i64 0, .int .u64 0, .int .i64 0], .slice none 0 0, .int .i64 1]) (by simp [results, Try.results17, go_sem, z0, z1, z2, z3]) rfl ⟨rfl, ?_⟩
      exact (((HX2.out.b.setCell (p := ⟨w.heap.size + 1 + 1, 0, none⟩) (by show w.heap.size ≤ w.heap.size + 1 + 1; omega) _).setCell (p := ⟨w.heap.size + 1 + 1, 1, none⟩) (by show w.heap.size ≤ w.heap.size + 1 + 1; omega) _).setCell (p := ⟨w.heap.size + 1 + 1, 2, none⟩) (by show w.heap.size ≤ w.heap.size + 1 + 1; omega) _).setCell (p := ⟨w.heap.size + 1 + 1, 3, none⟩) (by show w.heap.size ≤ w.heap.size + 1 + 1; omega) _
    | true =>
      rw [hm] at HMC
      by_cases h1 : at_ < 0
      · have e1 : decide (at_ < 0) = true := decide_eq_true h1
        clear h h1
        go_enter Try.func17, Try.ntmps17
        go_wp2_with fail
        rw [← HW1.out]
        refine HMC.out.mono ?_
        rintro e w2 ⟨rfl, hb2⟩
        have HX2 := Lib.hid (HX.out.step hb2)
        obtain ⟨z0, z1, z2, z3, y0, y1, y2, y3⟩ := LogBox.facts (show LogBox w2 (w.heap.size + 1 + 1) _ _ _ _ from (HL.out.step hb2).l)
        have q4 := HX2.out.r1
        clear hb2
        go_wp2_with fail
        refine bodyPost_ret (v := .tuple #[.agg #[.int .i64 0, .int .i64 0, .int .u64 0, .int .i64 0], .slice none 0 0, .int .i64 1]) (by simp [results, Try.results17, go_sem, z0, z1, z2, z3]) rfl ⟨rfl, ?_⟩
        exact (((HX2.out.b.setCell (p := ⟨w.heap.size + 1 + 1, 0, none⟩) (by show w.heap.size ≤ w.heap.size + 1 + 1; omega) _).setCell (p := ⟨w.heap.size + 1 + 1, 1, none⟩) (by show w.heap.size ≤ w.heap.size + 1 + 1; omega) _).setCell (p := ⟨w.heap.size + 1 + 1, 2, none⟩) (by show w.heap.size ≤ w.heap.size + 1 + 1; omega) _).setCell (p := ⟨w.heap.size + 1 + 1, 3, none⟩) (by show w.heap.size ≤ w.heap.size + 1 + 1; omega) _
      · have e1 : decide (at_ < 0) = false := decide_eq_false h1
        have h2 : mn ≤ at_ := by rcases h with h | h | h | h <;> first | cases h | (rw [hm] at h; cases h) | exact absurd h h1 | exact h
        have e2 : decide (mn ≤ at_) = true := decide_eq_true h2
        clear h h1 h2
        go_enter Try.func17, Try.ntmps17
        go_wp2_with fail
        rw [← HW1.out]
        refine HMC.out.mono ?_
        rintro e w2 ⟨rfl, hb2⟩
        have HX2 := Lib.hid (HX.out.step hb2)
        obtain ⟨z0, z1, z2, z3, y0, y1, y2, y3⟩ := LogBox.facts (show LogBox w2 (w.heap.size + 1 + 1) _ _ _ _ from (HL.out.step hb2).l)
        have q4 := HX2.out.r1
        clear hb2
        go_wp2_with fail
        refine bodyPost_ret (v := .tuple #[.agg #[.int .i64 0, .int .i64 0, .int .u64 0, .int .i64 0], .slice none 0 0, .int .i64 1]) (by simp [results, Try.results17, go_sem, z0, z1, z2, z3]) rfl ⟨rfl, ?_⟩
        exact (((HX2.out.b.setCell (p := ⟨w.heap.size + 1 + 1, 0, none⟩) (by show w.heap.size ≤ w.heap.size + 1 + 1; omega) _).setCell (p := ⟨w.heap.size + 1 + 1, 1, none⟩) (by show w.heap.size ≤ w.heap.size + 1 + 1; omega) _).setCell (p := ⟨w.heap.size + 1 + 1, 2, none⟩) (by show w.heap.size ≤ w.heap.size + 1 + 1; omega) _).setCell (p := ⟨w.heap.size + 1 + 1, 3, none⟩) (by show w.heap.size ≤ w.heap.size + 1 + 1; omega) _
def redo_Scan.f (l0_0 : List ByteArray) (l0_1 : List S88) (a0_2 : Bool) (a1_0 a1_1 a2 a3 : Int) : Option (Int × Int × Int × Int × List ByteArray × Int) :=
  if l0_0.length ≤ 10000 ∧ (a0_2 = true ∨ mayR l0_0.length a1_0 a1_1 = false ∨ a2 < 0 ∨ a1_1 ≤ a2) then some (0, 0, 0, 0, [], if a0_2 = true then 19 else 1)
  else if a0_2 = false ∧ RedOk l0_0 l0_1 a1_0 a1_1 a2 a3 then some (a2, ((foundD l0_0 l0_1 a1_0 a1_1 a2 a3 a1_1).2 : Int), a3, ((foundD l0_0 l0_1 a1_0 a1_1 a2 a3 a1_1).1.length : Int), (foundD l0_0 l0_1 a1_0 a1_1 a2 a3 a1_1).1, 0) else none
theorem redo_Scan.calls (A0_0 : Option Addr) (c0_0 : Nat) (l0_0 : List ByteArray) (A0_1 : Option Addr) (c0_1 : Nat) (l0_1 : List S88) (a0_2 : Bool) (a1_0 a1_1 a2 a3 : Int) (r1 r2 r3 r4 : Int) (r5 : List ByteArray) (r6 : Int) (w : World)
    (hr0_0 : Kd.C Kd.string w A0_0 l0_0.length l0_0) (hc0_0 : l0_0.length ≤ c0_0) (hr0_1 : Kd.C k88 w A0_1 l0_1.length l0_1) (hc0_1 : l0_1.length ≤ c0_1) (h : redo_Scan.f l0_0 l0_1 a0_2 a1_0 a1_1 a2 a3 = some (r1, r2, r3, r4, r5, r6)) :
    Calls Try.prog 17 #[.agg #[.slice A0_0 l0_0.length c0_0, .slice A0_1 l0_1.length c0_1, .bool a0_2], .agg #[.int .i64 a1_0, .int .i64 a1_1], .int .i64 a2, .int .u64 a3] w fun e w' =>
      ∃ v0_, e = .returned (.tuple #[.agg #[.int .i64 r1, .int .i64 r2, .int .u64 r3, .int .i64 r4], v0_, .int .i64 r6]) ∧ Kd.R Kd.string 9 w' w.heap.size (fun _ => True) v0_ r5 ∧ Below w.heap.size w w' := by
  unfold redo_Scan.f at h
  split at h
  · rename_i hh
    have h := Option.some.inj h
    simp only [Prod.mk.injEq] at h
    obtain ⟨rfl, rfl, rfl, rfl, rfl, rfl⟩ := h
    refine (scan_fail A0_0 c0_0 l0_0.length A0_1 c0_1 l0_1.length a0_2 a1_0 a1_1 a2 a3 (by omega) w hh.2).mono ?_
    rintro e w' ⟨rfl, hb⟩
    exact ⟨_, rfl, Kd.R_of_own (xs := []) (World.ownsRow_nil _ _ _ _) (fun _ _ => trivial), hb⟩
  · split at h
    · rename_i hk
      obtain ⟨rfl, hok, q1, q2, q3, q4, q5, q6, q7, q8, q9⟩ := hk
      have h := Option.some.inj h
      simp only [Prod.mk.injEq] at h
      obtain ⟨rfl, rfl, rfl, rfl, rfl, rfl⟩ := h
      obtain ⟨fr, rfl⟩ := Int.eq_ofNat_of_zero_le q3
      obtain ⟨mn, rfl⟩ := Int.eq_ofNat_of_zero_le (show 0 ≤ a1_1 by omega)
      obtain ⟨at_, rfl⟩ := Int.eq_ofNat_of_zero_le q5
      obtain ⟨first, rfl⟩ := Int.eq_ofNat_of_zero_le q7
      refine (scan_main A0_0 c0_0 l0_0 A0_1 c0_1 l0_1 fr mn at_ first w hr0_0 hc0_0 hr0_1 hc0_1 hok (by omega) (by omega) (by omega) q9 (by omega) (by omega)).mono ?_
      rintro e w' ⟨v, rfl, ho, hb⟩
      exact ⟨v, rfl, Kd.R_of_own ho (fun _ _ => trivial), hb⟩
    · cases h
end Go.Proofs.Ytcbfnfggnocndaa
end

section
/- Layer 5, walked: lay. -/
set_option linter.unusedVariables false
set_option linter.unusedSimpArgs false
namespace Go.Proofs.Ytcbfnfggnocndaa
open Go.RowKit Go.Shelf Go.Proofs.Ytcbfnfggnocndaa.Q Go.Proofs.YtcbfnfggnocndaaW.PrintWords Go.Proofs.YtcbfnfggnocndaaW.PrintLast Go.Proofs.YtcbfnfggnocndaaW.PrintMore Math

/-- The writes that texts are laid by, from the i-th sector of a ring on. -/
def laidP (fr mn at_ : Nat) : Nat → List ByteArray → List S88
  | _, [] => []
  | i, s :: l => ⟨((fr + (at_ + i) % mn : Nat) : Int), fillS s⟩ :: laidP fr mn at_ (i + 1) l
theorem laidP_len (fr mn at_ : Nat) : ∀ (l : List ByteArray) (i : Nat), (laidP fr mn at_ i l).length = l.length
  | [], _ => rfl
  | _ :: l, i => by unfold laidP; rw [List.length_cons, List.length_cons, laidP_len fr mn at_ l]
theorem laidP_snoc (fr mn at_ : Nat) (s : ByteArray) : ∀ (l : List ByteArray) (i : Nat), laidP fr mn at_ i (l ++ [s]) = laidP fr mn at_ i l ++ [⟨((fr + (at_ + (i + l.length)) % mn : Nat) : Int), fillS s⟩]
  | [], i => rfl
  | x :: l, i => by
    rw [List.cons_append]
    unfold laidP
    rw [laidP_snoc fr mn at_ s l (i + 1), List.cons_append, List.length_cons, show i + 1 + l.length = i + (l.length + 1) by omega]
theorem set3 {W : World} {b : Nat} {a c e x y z : Value} {t : TypeId} (h : W.heap[b]? = some (.cells #[a, c, e] t (0, 0))) :
    (((W.setCell ⟨b, 0, none⟩ x).setCell ⟨b, 1, none⟩ y).setCell ⟨b, 2, none⟩ z).heap[b]? = some (.cells #[x, y, z] t (0, 0)) :=
  heap_setCell_same _ b 2 #[x, y, e] t z (heap_setCell_same _ b 1 #[x, c, e] t y (heap_setCell_same W b 0 #[a, c, e] t x h))
/-- What stands in lay's boxes. -/
structure LayS (w W : World) (Q : Nat → Prop) (fr mn : Int) (l0 : List ByteArray) (l1 : List S88) (v0 v1 : Value) : Prop where
  d : W.heap[w.heap.size]? = some (.cells #[v0, v1, .bool false] 25 (0, 0))
  r : W.heap[w.heap.size + 1]? = some (.cells #[.int .i64 fr, .int .i64 mn] 27 (0, 0))
  o : W.heap[w.heap.size + 2]? = some (.cells #[.slice none 0 0, .slice none 0 0, .bool false] 25 (0, 0))
  v0 : Kd.V Kd.string 9 W w.heap.size Q v0 l0
  v1 : Kd.V k88 88 W w.heap.size Q v1 l1
  b : Below w.heap.size w W
namespace LayS
variable {w W W' : World} {Q : Nat → Prop} {fr mn : Int} {l0 : List ByteArray} {l1 : List S88} {v0 v1 : Value}
theorem step (h : LayS w W Q fr mn l0 l1 v0 v1) (hb : Below W.heap.size W W') : LayS w W' Q fr mn l0 l1 v0 v1 :=
  ⟨(hb.block _ (blk_lt h.d)).trans h.d, (hb.block _ (blk_lt h.r)).trans h.r, (hb.block _ (blk_lt h.o)).trans h.o, Kd.V_below h.v0 hb, Kd.V_below h.v1 hb, h.b.trans (hb.mono h.b.size)⟩
theorem drew (h : LayS w W Q fr mn l0 l1 v0 v1) : LayS w W.drew Q fr mn l0 l1 v0 v1 := ⟨h.d, h.r, h.o, Kd.V_drew h.v0, Kd.V_drew h.v1, below_drew h.b⟩
theorem c0 (h : LayS w W Q fr mn l0 l1 v0 v1) : W.cell? ⟨w.heap.size, 0, none⟩ = some v0 := by rw [blk_cell h.d]; rfl
theorem c1 (h : LayS w W Q fr mn l0 l1 v0 v1) : W.cell? ⟨w.heap.size, 1, none⟩ = some v1 := by rw [blk_cell h.d]; rfl
theorem c2 (h : LayS w W Q fr mn l0 l1 v0 v1) : W.cell? ⟨w.heap.size, 2, none⟩ = some (.bool false) := by rw [blk_cell h.d]; rfl
theorem r0 (h : LayS w W Q fr mn l0 l1 v0 v1) : W.cell? ⟨w.heap.size + 1, 0, none⟩ = some (.int .i64 fr) := by rw [blk_cell h.r]; rfl
theorem r1 (h : LayS w W Q fr mn l0 l1 v0 v1) : W.cell? ⟨w.heap.size + 1, 1, none⟩ = some (.int .i64 mn) := by rw [blk_cell h.r]; rfl
theorem f0 (h : LayS w W Q fr mn l0 l1 v0 v1) : W.frozen? ⟨w.heap.size, 0, none⟩ = false := blk_frozen h.d 0
theorem f1 (h : LayS w W Q fr mn l0 l1 v0 v1) : W.frozen? ⟨w.heap.size, 1, none⟩ = false := blk_frozen h.d 1
theorem f2 (h : LayS w W Q fr mn l0 l1 v0 v1) : W.frozen? ⟨w.heap.size, 2, none⟩ = false := blk_frozen h.d 2
theorem p0 (h : LayS w W Q fr mn l0 l1 v0 v1) : W.cell? ⟨w.heap.size + 1 + 1, 0, none⟩ = some (.slice none 0 0) := by rw [blk_cell (g := w.heap.size + 1 + 1) h.o]; rfl
theorem p1 (h : LayS w W Q fr mn l0 l1 v0 v1) : W.cell? ⟨w.heap.size + 1 + 1, 1, none⟩ = some (.slice none 0 0) := by rw [blk_cell (g := w.heap.size + 1 + 1) h.o]; rfl
theorem p2 (h : LayS w W Q fr mn l0 l1 v0 v1) : W.cell? ⟨w.heap.size + 1 + 1, 2, none⟩ = some (.bool false) := by rw [blk_cell (g := w.heap.size + 1 + 1) h.o]; rfl
theorem g0 (h : LayS w W Q fr mn l0 l1 v0 v1) : W.frozen? ⟨w.heap.size + 1 + 1, 0, none⟩ = false := blk_frozen (g := w.heap.size + 1 + 1) h.o 0
theorem g1 (h : LayS w W Q fr mn l0 l1 v0 v1) : W.frozen? ⟨w.heap.size + 1 + 1, 1, none⟩ = false := blk_frozen (g := w.heap.size + 1 + 1) h.o 1
theorem g2 (h : LayS w W Q fr mn l0 l1 v0 v1) : W.frozen? ⟨w.heap.size + 1 + 1, 2, none⟩ = false := blk_frozen (g := w.heap.size + 1 + 1) h.o 2
theorem set {u0 u1 : Value} {k0 : List ByteArray} {k1 : List S88} (h : LayS w W Q fr mn l0 l1 v0 v1) (hQ : ∀ k, Q k → k ≠ w.heap.size) (h0 : Kd.V Kd.string 9 W w.heap.size Q u0 k0) (h1 : Kd.V k88 88 W w.heap.size Q u1 k1) :
    LayS w (((W.setCell ⟨w.heap.size, 0, none⟩ u0).setCell ⟨w.heap.size, 1, none⟩ u1).setCell ⟨w.heap.size, 2, none⟩ (.bool false)) Q fr mn k0 k1 u0 u1 := by
  refine ⟨set3 h.d, ?_, ?_, ?_, ?_, ?_⟩
  · rw [heap_setCell_other _ ⟨w.heap.size, 2, none⟩ _ _ (show w.heap.size + 1 ≠ w.heap.size by omega), heap_setCell_other _ ⟨w.heap.size, 1, none⟩ _ _ (show w.heap.size + 1 ≠ w.heap.size by omega), heap_setCell_other _ ⟨w.heap.size, 0, none⟩ _ _ (show w.heap.size + 1 ≠ w.heap.size by omega)]; exact h.r
  · rw [heap_setCell_other _ ⟨w.heap.size, 2, none⟩ _ _ (show w.heap.size + 2 ≠ w.heap.size by omega), heap_setCell_other _ ⟨w.heap.size, 1, none⟩ _ _ (show w.heap.size + 2 ≠ w.heap.size by omega), heap_setCell_other _ ⟨w.heap.size, 0, none⟩ _ _ (show w.heap.size + 2 ≠ w.heap.size by omega)]; exact h.o
  · exact Kd.V_far (Kd.V_far (Kd.V_far h0 hQ _) hQ _) hQ _
  · exact Kd.V_far (Kd.V_far (Kd.V_far h1 hQ _) hQ _) hQ _
  · exact ((h.b.setCell (p := ⟨w.heap.size, 0, none⟩) (Nat.le_refl _) _).setCell (p := ⟨w.heap.size, 1, none⟩) (Nat.le_refl _) _).setCell (p := ⟨w.heap.size, 2, none⟩) (Nat.le_refl _) _
end LayS
set_option maxHeartbeats 4000000 in
set_option maxRecDepth 1000000 in
theorem lay_calls (P0 P1 : Nat → Prop) (A0 : Option Addr) (c0 : Nat) (l0 : List ByteArray) (A1 : Option Addr) (c1 : Nat) (l1 : List S88) (fr mn at_ : Nat) (A3 : Option Addr) (c3 : Nat) (l : List ByteArray) (w : World)
    (hs0 : Kd.V Kd.string 9 w w.heap.size P0 (.slice A0 l0.length c0) l0) (hs1 : Kd.V k88 88 w w.heap.size P1 (.slice A1 l1.length c1) l1) (hr : RdS w A3 l) (hll : l.length ≤ 1000000) (hsz : ∀ s ∈ l, s.size ≤ 64)
    (hm : 1 ≤ mn) (hfm : fr + mn ≤ l0.length) (hn0 : l0.length ≤ 1000000000) (hl1 : l1.length + l.length ≤ 1000000000) (hat : at_ ≤ 1000000000) :
    Calls Try.prog 32 #[.agg #[.slice A0 l0.length c0, .slice A1 l1.length c1, .bool false], .agg #[.int .i64 fr, .int .i64 mn], .int .i64 at_, .slice A3 l.length c3] w fun e w' => ∃ v0 v1, e = .returned (.agg #[v0, v1, .bool false]) ∧
      Kd.V Kd.string 9 w' w.heap.size (fun k => (P0 k ∨ P1 k) ∨ w.heap.size ≤ k) v0 l0 ∧ Kd.V k88 88 w' w.heap.size (fun k => (P0 k ∨ P1 k) ∨ w.heap.size ≤ k) v1 (l1 ++ laidP fr mn at_ 0 l) ∧ Below w.heap.size w w' := by
  obtain ⟨Q, hQ⟩ : ∃ Q : Nat → Prop, Q = fun k => ((P0 k ∨ P1 k) ∧ k < w.heap.size) ∨ w.heap.size + 3 ≤ k := ⟨_, rfl⟩
  have hQne : ∀ k, Q k → k ≠ w.heap.size ∧ k ≠ w.heap.size + 1 ∧ k ≠ w.heap.size + 2 := by
    intro k hk
    rw [hQ] at hk
    rcases hk with ⟨_, hk⟩ | hk <;> omega
  have hQup : ∀ k, w.heap.size + 3 ≤ k → Q k := fun k hk => by rw [hQ]; exact .inr hk
  have hQout : ∀ k, Q k → (P0 k ∨ P1 k) ∨ w.heap.size ≤ k := by
    intro k hk
    rw [hQ] at hk
    rcases hk with ⟨hk, _⟩ | hk
    · exact .inl hk
    · exact .inr (by omega)
  have ha0 : Kd.V Kd.string 9 w w.heap.size Q (.slice A0 l0.length c0) l0 := Kd.V_mono (Kd.V_bound hs0) (fun k hk => by rw [hQ]; exact .inl ⟨.inl hk.1, hk.2⟩)
  have ha1 : Kd.V k88 88 w w.heap.size Q (.slice A1 l1.length c1) l1 := Kd.V_mono (Kd.V_bound hs1) (fun k hk => by rw [hQ]; exact .inl ⟨.inr hk.1, hk.2⟩)
  obtain ⟨W1, hW1⟩ : ∃ W1, W1 = ((w.alloc (.cells #[.slice A0 l0.length c0, .slice A1 l1.length c1, .bool false] 25)).alloc (.cells #[.int .i64 fr, .int .i64 mn] 27)).alloc (.cells #[.slice none 0 0, .slice none 0 0, .bool false] 25) := ⟨_, rfl⟩
  have hx0 := Bx2.new w (.slice A0 l0.length c0) (.slice A1 l1.length c1) (.bool false) fr mn
  obtain ⟨W2, hW2⟩ : ∃ W2, W2 = (w.alloc (.cells #[.slice A0 l0.length c0, .slice A1 l1.length c1, .bool false] 25)).alloc (.cells #[.int .i64 fr, .int .i64 mn] 27) := ⟨_, rfl⟩
  have hz2 : W2.heap.size = w.heap.size + 2 := by rw [hW2, World.size_alloc, World.size_alloc]
  rw [← hW2] at hx0 hW1
  have b3 := (Below.refl W2.heap.size W2).alloc (Nat.le_refl _) (.cells #[.slice none 0 0, .slice none 0 0, .bool false] 25)
  rw [← hW1] at b3
  have hx := hx0.step b3
  have hs : LayS w W1 Q fr mn l0 (l1 ++ laidP fr mn at_ 0 (l.take 0)) (.slice A0 l0.length c0) (.slice A1 l1.length c1) :=
    ⟨hx.d, hx.r, by rw [← hz2, hW1]; exact heap_alloc_new W2 _, Kd.V_step ha0 (fun k _ hk => hx.b.block k hk), by rw [List.take_zero]; unfold laidP; rw [List.append_nil]; exact Kd.V_step ha1 (fun k _ hk => hx.b.block k hk), hx.b⟩
  have hz1 : w.heap.size + 3 ≤ W1.heap.size := by rw [hW1, World.size_alloc, hz2]; omega
  have HS1 := Lib.hid hs; have HZ1 := Lib.hid hz1
  have HQ1 := Lib.hid hQne; have HQ2 := Lib.hid hQup; have HQ3 := Lib.hid hQout; have HR := Lib.hid hr; have HSZ := Lib.hid hsz; have HW1 := Lib.hid hW1; have HW2 := Lib.hid hW2
  clear hs0 hs1 hr hsz hQ hQne hQup hQout ha0 ha1 hx0 hx b3 hs hz1 hz2 hW1 hW2
  go_enter Try.func32, Try.ntmps32
  go_wp2_with fail
  rw [← HW2.out, ← HW1.out]
  go_loopg [13] l.length (fun gk v13 wx => ∃ i : Nat, i + gk = l.length ∧ v13 = .int .i64 i ∧ Hid (∃ v0 v1, LayS w wx Q fr mn l0 (l1 ++ laidP fr mn at_ 0 (l.take i)) v0 v1) ∧ Hid (w.heap.size + 3 ≤ wx.heap.size))
  case atStart => exact ⟨0, by omega, rfl, Lib.hid ⟨_, _, HS1.out⟩, HZ1⟩
  case round =>
    clear HS1 HZ1
    obtain ⟨i, hig, rfl, HI, HZ⟩ := hrel
    obtain ⟨u0, u1, hs⟩ := HI.out
    obtain ⟨B0, d0, rfl⟩ := Kd.V_slice hs.v0
    obtain ⟨B1, d1, rfl⟩ := Kd.V_slice hs.v1
    cases gk with
    | zero =>
      obtain rfl : i = l.length := by omega
      rw [List.take_of_length_le (Nat.le_refl _)] at hs
      have HS := Lib.hid hs
      have hiz : decide ((l.length : Int) < (l.length : Int)) = false := decide_eq_false (by omega)
      have hizn : decide (l.length < l.length) = false := decide_eq_false (by omega)
      clear hig hs HI
      have q0 := HS.out.c0; have q1 := HS.out.c1; have q2 := HS.out.c2
      have p0 := HS.out.p0; have p1 := HS.out.p1; have p2 := HS.out.p2
      have g0 := HS.out.g0; have g1 := HS.out.g1; have g2 := HS.out.g2
      go_wp2_with fail
      refine bodyPost_ret (v := .agg #[.slice B0 l0.length d0, .slice B1 (l1 ++ laidP fr mn at_ 0 l).length d1, .bool false]) (by simp [results, Try.results32, go_sem, p0, p1, p2]) rfl ⟨_, _, rfl, ?_, ?_, ?_⟩
      · exact Kd.V_mono (Kd.V_far (Kd.V_far (Kd.V_far HS.out.v0 (fun k hk => (HQ1.out k hk).2.2) _) (fun k hk => (HQ1.out k hk).2.2) _) (fun k hk => (HQ1.out k hk).2.2) _) HQ3.out
      · exact Kd.V_mono (Kd.V_far (Kd.V_far (Kd.V_far HS.out.v1 (fun k hk => (HQ1.out k hk).2.2) _) (fun k hk => (HQ1.out k hk).2.2) _) (fun k hk => (HQ1.out k hk).2.2) _) HQ3.out
      · exact ((HS.out.b.setCell (p := ⟨w.heap.size + 1 + 1, 0, none⟩) (by show w.heap.size ≤ w.heap.size + 1 + 1; omega) _).setCell (p := ⟨w.heap.size + 1 + 1, 1, none⟩) (by show w.heap.size ≤ w.heap.size + 1 + 1; omega) _).setCell (p := ⟨w.heap.size + 1 + 1, 2, none⟩) (by show w.heap.size ≤ w.heap.size + 1 + 1; omega) _
    | succ g =>
      have hi : i < l.length := by omega
      have hiz : decide ((i : Int) < (l.length : Int)) = true := decide_eq_true (by omega)
      have hizn : decide (i < l.length) = true := decide_eq_true (by omega)
      obtain ⟨ad, hA, hcell⟩ := HR.out.at_ i hi
      subst hA
      replace hcell := (hs.b.cell (World.block_lt_of_cell? w _ hcell)).trans hcell
      obtain ⟨m, hm2⟩ : ∃ m, m = (at_ + i) % mn := ⟨_, rfl⟩
      have hml : m < mn := by rw [hm2]; exact Nat.mod_lt _ (by omega)
      have hrem : Int.tmod ((at_ : Int) + (i : Int)) (mn : Int) = (m : Int) := by
        rw [show (at_ : Int) + (i : Int) = ((at_ + i : Nat) : Int) by omega, hm2]; rfl
      have hsn : l1 ++ laidP fr mn at_ 0 (l.take (i + 1)) = (l1 ++ laidP fr mn at_ 0 (l.take i)) ++ [⟨((fr + m : Nat) : Int), fillS l[i]⟩] := by
        rw [List.take_succ_eq_append_getElem hi, laidP_snoc, Nat.zero_add, List.length_take, Nat.min_eq_left (by omega), ← hm2, List.append_assoc]
      have hsx := HSZ.out _ (List.getElem_mem hi)
      have hLl : (l1 ++ laidP fr mn at_ 0 (l.take i)).length ≤ 1000000000 := by rw [List.length_append, laidP_len, List.length_take, Nat.min_eq_left (by omega)]; omega
      obtain ⟨LL, hLL⟩ : ∃ LL, LL = l1 ++ laidP fr mn at_ 0 (l.take i) := ⟨_, rfl⟩
      rw [← hLL] at hs hsn hLl
      have HSN := Lib.hid hsn
      have hww : w.heap.size + 3 ≤ wr.drew.heap.size := HZ.out
      have HS := Lib.hid hs.drew
      clear hsn hLL hm2 HI
      generalize l[i] = sx at *
      have hw1 : wrap64 ((fr : Int) + (m : Int)) = (fr : Int) + (m : Int) := w64 (by omega) (by omega)
      have hwr : ∀ W, LayS w W Q fr mn l0 LL (.slice B0 l0.length d0) (.slice B1 LL.length d1) → w.heap.size + 3 ≤ W.heap.size → Calls Try.prog 50 #[.agg #[.slice B0 l0.length d0, .slice B1 LL.length d1, .bool false], .int .i64 (wrap64 ((fr : Int) + (m : Int))), .string sx] W fun e w' =>
          ∃ v0 v1, e = .returned (.tuple #[.agg #[v0, v1, .bool false], .int .i64 0]) ∧ LayS w w' Q fr mn l0 LL (.slice B0 l0.length d0) (.slice B1 LL.length d1) ∧ w.heap.size + 3 ≤ w'.heap.size ∧ Kd.V Kd.string 9 w' w.heap.size Q v0 l0 ∧ Kd.V k88 88 w' w.heap.size Q v1 (LL ++ [⟨((fr + m : Nat) : Int), fillS sx⟩]) := by
        intro W hW hz
        rw [hw1]
        clear hw1
        have hwf : disk_Write.f l0 LL false ((fr : Int) + (m : Int)) sx = some (l0, LL ++ [⟨((fr + m : Nat) : Int), fillS sx⟩], false, 0) := by
          unfold disk_Write.f
          rw [if_pos hLl]
          unfold writeR
          rw [if_neg (by decide), if_neg (by omega), if_neg (by omega)]
          rfl
        refine (disk_Write.calls Q B0 d0 l0 Q B1 d1 LL false _ sx _ _ _ _ W hW.v0 hW.v1 hwf).mono ?_
        rintro e w4 ⟨v0, v1, rfl, h0, h1, hb⟩
        have hq : ∀ k, ((Q k ∨ Q k) ∨ W.heap.size ≤ k) → Q k := by
          rintro k ((hk | hk) | hk)
          · exact hk
          · exact hk
          · exact HQ2.out k (by omega)
        exact ⟨v0, v1, rfl, hW.step hb, Nat.le_trans hz hb.size, Kd.V_mono h0 hq, Kd.V_mono h1 hq⟩
      have HWR := Lib.hid (fun W h => hwr W h)
      clear hwr hs hw1
      have hlz2 : ((mn : Int) == 0) = false := beq_eq_false_iff_ne.2 (by omega)
      have hlz : ¬ ((mn : Int) = 0) := by omega
      have hmz : ¬ mn = 0 := by omega
      have hw0 : wrap64 ((at_ : Int) + (i : Int)) = (at_ : Int) + (i : Int) := w64 (by omega) (by omega)
      clear hLl
      go_wp2_with fail
      refine start_ (n := 16) (S := fun w' => w'.cell? ⟨w.heap.size, 0, none⟩ = some (.slice B0 l0.length d0) ∧ w'.cell? ⟨w.heap.size, 1, none⟩ = some (.slice B1 LL.length d1) ∧ w'.cell? ⟨w.heap.size, 2, none⟩ = some (.bool false) ∧ w'.cell? ⟨w.heap.size + 1, 0, none⟩ = some (.int .i64 (fr : Int)) ∧ w'.cell? ⟨w.heap.size + 1, 1, none⟩ = some (.int .i64 (mn : Int))) (ds := [15]) #[false, false, false, false, false, false, false, false, false, false, false, false, false, false, false, false] (by kernel_rfl) rfl rfl ⟨HS.out.c0, HS.out.c1, HS.out.c2, HS.out.r0, HS.out.r1⟩ (fun hHeld => ?_)
      refine pure_ (i := 1) (N := some 20) (v := ?_) (a' := ?_) #[false, true, false, false, false, false, false, false, false, false, false, false, false, false, false, false] rfl rfl (by kernel_rfl) (fun _ _ _ h => h) (Or.inl ⟨by rfl, ?_⟩) ?_ ?_
      rotate_left
      · intro w'
        go_simp
        with_reducible rfl
      rotate_left
      · simp only [Act.put, List.setIfInBounds_toArray, List.set_cons_zero, List.set_cons_succ, i64_w, i32_w]
        rfl
      refine pure_ (i := 3) (N := some 22) (v := ?_) (a' := ?_) #[false, true, false, true, false, false, false, false, false, false, false, false, false, false, false, false] rfl rfl (by kernel_rfl) (fun _ _ _ h => h) (Or.inl ⟨by rfl, ?_⟩) ?_ ?_
      rotate_left
      · intro w'
        go_simp
        with_reducible rfl
      rotate_left
      · simp only [Act.put, List.setIfInBounds_toArray, List.set_cons_zero, List.set_cons_succ, i64_w, i32_w]
        rfl
      refine pure_ (i := 4) (N := some 23) (v := ?_) (a' := ?_) #[false, true, false, true, true, false, false, false, false, false, false, false, false, false, false, false] rfl rfl (by kernel_rfl) (fun _ _ _ h => h) (Or.inl ⟨by rfl, ?_⟩) ?_ ?_
      rotate_left
      · intro w'
        go_simp
        with_reducible rfl
      rotate_left
      · simp only [Act.put, List.setIfInBounds_toArray, List.set_cons_zero, List.set_cons_succ, i64_w, i32_w]
        rfl
      refine pure_ (i := 5) (N := some 24) (v := ?_) (a' := ?_) #[false, true, false, true, true, true, false, false, false, false, false, false, false, false, false, false] rfl rfl (by kernel_rfl) (fun _ _ _ h => h) (Or.inl ⟨by rfl, ?_⟩) ?_ ?_
      rotate_left
      · intro w'
        go_simp
        with_reducible rfl
      rotate_left
      · simp only [Act.put, List.setIfInBounds_toArray, List.set_cons_zero, List.set_cons_succ, i64_w, i32_w]
        rfl
      refine pure_ (i := 6) (N := some 25) (v := ?_) (a' := ?_) #[false, true, false, true, true, true, true, false, false, false, false, false, false, false, false, false] rfl rfl (by kernel_rfl) (fun _ _ _ h => h) (Or.inl ⟨by rfl, ?_⟩) ?_ ?_
      rotate_left
      · intro w'
        go_simp
        with_reducible rfl
      rotate_left
      · simp only [Act.put, List.setIfInBounds_toArray, List.set_cons_zero, List.set_cons_succ, i64_w, i32_w]
        rfl
      refine pure_ (i := 10) (N := some 29) (v := ?_) (a' := ?_) #[false, true, false, true, true, true, true, false, false, false, true, false, false, false, false, false] rfl rfl (by kernel_rfl) (fun _ _ _ h => h) (Or.inl ⟨by rfl, ?_⟩) ?_ ?_
      rotate_left
      · intro w'
        go_simp
        with_reducible rfl
      rotate_left
      · simp only [Act.put, List.setIfInBounds_toArray, List.set_cons_zero, List.set_cons_succ, i64_w, i32_w]
        rfl
      refine take_ (i := 0) (N := some 19) (v := ?_) (a' := ?_) #[true, true, false, true, true, true, true, false, false, false, true, false, false, false, false, false] rfl rfl (by kernel_rfl) (fun _ _ _ h => h) (Or.inl ⟨by rfl, ?_⟩) hHeld ?_ ?_
      rotate_left
      · rintro w' ⟨s0, s1, s2, s3, s4⟩
        go_simp
        with_reducible rfl
      rotate_left
      · simp only [Act.put, List.setIfInBounds_toArray, List.set_cons_zero, List.set_cons_succ, i64_w, i32_w]
        rfl
      refine take_ (i := 2) (N := some 21) (v := ?_) (a' := ?_) #[true, true, true, true, true, true, true, false, false, false, true, false, false, false, false, false] rfl rfl (by kernel_rfl) (fun _ _ _ h => h) (Or.inl ⟨by rfl, ?_⟩) hHeld ?_ ?_
      rotate_left
      · rintro w' ⟨s0, s1, s2, s3, s4⟩
        go_simp
        with_reducible rfl
      rotate_left
      · simp only [Act.put, List.setIfInBounds_toArray, List.set_cons_zero, List.set_cons_succ, i64_w, i32_w]
        rfl
      refine take_ (i := 7) (N := some 26) (v := ?_) (a' := ?_) #[true, true, true, true, true, true, true, true, false, false, true, false, false, false, false, false] rfl rfl (by kernel_rfl) (fun _ _ _ h => h) (Or.inl ⟨by rfl, ?_⟩) hHeld ?_ ?_
      rotate_left
      · rintro w' ⟨s0, s1, s2, s3, s4⟩
        go_simp
        with_reducible rfl
      rotate_left
      · simp only [Act.put, List.setIfInBounds_toArray, List.set_cons_zero, List.set_cons_succ, i64_w, i32_w]
        rfl
      refine pure_ (i := 8) (N := some 27) (v := ?_) (a' := ?_) #[true, true, true, true, true, true, true, true, true, false, true, false, false, false, false, false] rfl rfl (by kernel_rfl) (fun _ _ _ h => h) (Or.inl ⟨by rfl, ?_⟩) ?_ ?_
      rotate_left
      · intro w'
        go_simp
        with_reducible rfl
      rotate_left
      · simp only [Act.put, List.setIfInBounds_toArray, List.set_cons_zero, List.set_cons_succ, i64_w, i32_w]
        rfl
      refine pure_ (i := 9) (N := some 28) (v := ?_) (a' := ?_) #[true, true, true, true, true, true, true, true, true, true, true, false, false, false, false, false] rfl rfl (by kernel_rfl) (fun _ _ _ h => h) (Or.inl ⟨by rfl, ?_⟩) ?_ ?_
      rotate_left
      · intro w'
        go_simp
        with_reducible rfl
      rotate_left
      · simp only [Act.put, List.setIfInBounds_toArray, List.set_cons_zero, List.set_cons_succ, i64_w, i32_w]
        rfl
      refine one_ (i := 11) (N := some 30) #[true, true, true, true, true, true, true, true, true, true, true, true, false, false, false, false] rfl rfl (by kernel_rfl) (by decide) (fun K hK => ?_)
      refine goes_ Try.func50 (by kernel_rfl) rfl #[.agg #[.slice B0 l0.length d0, .slice B1 LL.length d1, .bool false], .int .i64 (wrap64 ((fr : Int) + (m : Int))), .string sx] (by rfl) rfl rfl (by simp only [List.map_toArray, List.map_cons, List.map_nil]; rfl) ?_
      with_reducible refine ((HWR.out _ HS.out hww)).mono ?_
      rintro e w4 ⟨v0, v1, rfl, hs4, hz4, hv0, hv1⟩
      refine ⟨_, rfl, ?_⟩
      obtain ⟨B2, d2, rfl⟩ := Kd.V_slice hv0
      obtain ⟨B3, d3, rfl⟩ := Kd.V_slice hv1
      have HS4 := Lib.hid hs4
      have HZ4 := Lib.hid hz4
      have HV0 := Lib.hid hv0
      have HV1 := Lib.hid hv1
      have y0 := hs4.f0
      have y1 := hs4.f1
      have y2 := hs4.f2
      clear hs4 hz4 hv0 hv1
      refine hK.out _ _ ⟨HS4.out.c0, HS4.out.c1, HS4.out.c2, HS4.out.r0, HS4.out.r1⟩ (fun hHeld => ?_)
      clear hK K
      refine norm_ (a' := ?_) ?_ ?_
      rotate_left
      · show Act.put _ (some 30) _ = _
        simp only [Act.put, List.setIfInBounds_toArray, List.set_cons_zero, List.set_cons_succ, i64_w, i32_w]
        rfl
      refine pure_ (i := 12) (N := some 18) (v := ?_) (a' := ?_) #[true, true, true, true, true, true, true, true, true, true, true, true, true, false, false, false] rfl rfl (by kernel_rfl) (fun _ _ _ h => h) (Or.inl ⟨by rfl, ?_⟩) ?_ ?_
      rotate_left
      · intro w'
        go_simp
        with_reducible rfl
      rotate_left
      · simp only [Act.put, List.setIfInBounds_toArray, List.set_cons_zero, List.set_cons_succ, i64_w, i32_w]
        rfl
      refine pure_ (i := 13) (N := some 31) (v := ?_) (a' := ?_) #[true, true, true, true, true, true, true, true, true, true, true, true, true, true, false, false] rfl rfl (by kernel_rfl) (fun _ _ _ h => h) (Or.inl ⟨by rfl, ?_⟩) ?_ ?_
      rotate_left
      · intro w'
        go_simp
        with_reducible rfl
      rotate_left
      · simp only [Act.put, List.setIfInBounds_toArray, List.set_cons_zero, List.set_cons_succ, i64_w, i32_w]
        rfl
      refine pure_ (i := 14) (N := some 32) (v := ?_) (a' := ?_) #[true, true, true, true, true, true, true, true, true, true, true, true, true, true, true, false] rfl rfl (by kernel_rfl) (fun _ _ _ h => h) (Or.inl ⟨by rfl, ?_⟩) ?_ ?_
      rotate_left
      · intro w'
        go_simp
        with_reducible rfl
      rotate_left
      · simp only [Act.put, List.setIfInBounds_toArray, List.set_cons_zero, List.set_cons_succ, i64_w, i32_w]
        rfl
      refine last_ (i := 15) (N := none) #[true, true, true, true, true, true, true, true, true, true, true, true, true, true, true, true] rfl rfl (by kernel_rfl) (by decide) (fun K hK => ?_)
      have z0 := HS4.out.c0
      have z1 := HS4.out.c1
      have z2 := HS4.out.c2
      refine skip_ (w1 := ?_) (by rfl) rfl ?_ ?_
      rotate_left
      · go_simp
        rfl
      refine hK.out _ _ ?_
      clear hK K
      refine done_ (by kernel_rfl) ?_
      go_wp2_with fail
      go_roundg g
      case measure => omega
      case rel =>
        refine ⟨i + 1, by omega, by congr 1, Lib.hid ⟨.slice B2 l0.length d2, .slice B3 (LL.length + 1) d3, ?_⟩, Lib.hid ?_⟩
        · rw [HSN.out]
          have hv1 := HV1.out
          rw [List.length_append] at hv1
          exact HS4.out.set (fun k hk => (HQ1.out k hk).1) HV0.out hv1
        · have hz4 := HZ4.out
          simp [World.setCell]
          exact hz4
end Go.Proofs.Ytcbfnfggnocndaa
end

section
/- Layer 5, walked: Append where it is refused. -/
set_option linter.unusedVariables false
set_option linter.unusedSimpArgs false
namespace Go.Proofs.Ytcbfnfggnocndaa
open Go.RowKit Go.Shelf Go.Proofs.Ytcbfnfggnocndaa.Q Go.Proofs.YtcbfnfggnocndaaW.PrintWords Go.Proofs.YtcbfnfggnocndaaW.PrintLast Go.Proofs.YtcbfnfggnocndaaW.PrintMore Math

/-- A disk's cell of the call's own. -/
def DskBox (W : World) (b : Nat) (x y z : Value) : Prop := W.heap[b]? = some (.cells #[x, y, z] 25 (0, 0))
theorem DskBox.facts {W : World} {b : Nat} {x y z : Value} (h : DskBox W b x y z) :
    W.cell? ⟨b, 0, none⟩ = some x ∧ W.cell? ⟨b, 1, none⟩ = some y ∧ W.cell? ⟨b, 2, none⟩ = some z ∧ W.frozen? ⟨b, 0, none⟩ = false ∧ W.frozen? ⟨b, 1, none⟩ = false ∧ W.frozen? ⟨b, 2, none⟩ = false := by
  refine ⟨by rw [blk_cell h]; rfl, by rw [blk_cell h]; rfl, by rw [blk_cell h]; rfl, blk_frozen h 0, blk_frozen h 1, blk_frozen h 2⟩
theorem ap5_new (w : World) (d0 d1 d2 : Value) (f m a u fi ma : Int) (W : World) (hW : W = ((((w.alloc (.cells #[d0, d1, d2] 25)).alloc (.cells #[.int .i64 f, .int .i64 m] 27)).alloc (.cells #[.int .i64 a, .int .i64 u, .int .u64 fi, .int .i64 ma] 30)).alloc (.cells #[.slice none 0 0, .slice none 0 0, .bool false] 25)).alloc (.cells #[.int .i64 0, .int .i64 0, .int .u64 0, .int .i64 0] 30)) :
    Bx2 w W d0 d1 d2 f m ∧ BxL w W a u fi ma ∧ DskBox W (w.heap.size + 1 + 1 + 1) (.slice none 0 0) (.slice none 0 0) (.bool false) ∧ LogBox W (w.heap.size + 1 + 1 + 1 + 1) (.int .i64 0) (.int .i64 0) (.int .u64 0) (.int .i64 0) ∧ W.heap.size = w.heap.size + 5 := by
  obtain ⟨W1, hW1⟩ : ∃ W1, W1 = ((w.alloc (.cells #[d0, d1, d2] 25)).alloc (.cells #[.int .i64 f, .int .i64 m] 27)).alloc (.cells #[.int .i64 a, .int .i64 u, .int .u64 fi, .int .i64 ma] 30) := ⟨_, rfl⟩
  obtain ⟨hx, hl, hz⟩ := bx3_new w _ _ _ _ _ _ _ _ _ W1 hW1
  rw [← hW1] at hW
  obtain ⟨W2, hW2⟩ : ∃ W2, W2 = W1.alloc (.cells #[.slice none 0 0, .slice none 0 0, .bool false] 25) := ⟨_, rfl⟩
  rw [← hW2] at hW
  have b2 := (Below.refl W1.heap.size W1).alloc (Nat.le_refl _) (.cells #[.slice none 0 0, .slice none 0 0, .bool false] 25)
  rw [← hW2] at b2
  have z2 : W2.heap.size = w.heap.size + 4 := by rw [hW2, World.size_alloc, hz]
  have b3 := (Below.refl W2.heap.size W2).alloc (Nat.le_refl _) (.cells #[.int .i64 0, .int .i64 0, .int .u64 0, .int .i64 0] 30)
  rw [← hW] at b3
  have hd : DskBox W2 (w.heap.size + 1 + 1 + 1) (.slice none 0 0) (.slice none 0 0) (.bool false) := by unfold DskBox; rw [hW2, show w.heap.size + 1 + 1 + 1 = W1.heap.size by omega]; exact heap_alloc_new W1 _
  refine ⟨(hx.step b2).step b3, (hl.step b2).step b3, (b3.block _ (blk_lt hd)).trans hd, ?_, by rw [hW, World.size_alloc, z2]⟩
  unfold LogBox; rw [hW, show w.heap.size + 1 + 1 + 1 + 1 = W2.heap.size by omega]; exact heap_alloc_new W2 _
theorem below7 {w W : World} {x0 x1 x2 y0 y1 y2 y3 : Value} (h : Below w.heap.size w W) : Below w.heap.size w (((((((W.setCell ⟨w.heap.size + 1 + 1 + 1, 0, none⟩ x0).setCell ⟨w.heap.size + 1 + 1 + 1, 1, none⟩ x1).setCell ⟨w.heap.size + 1 + 1 + 1, 2, none⟩ x2).setCell ⟨w.heap.size + 1 + 1 + 1 + 1, 0, none⟩ y0).setCell ⟨w.heap.size + 1 + 1 + 1 + 1, 1, none⟩ y1).setCell ⟨w.heap.size + 1 + 1 + 1 + 1, 2, none⟩ y2).setCell ⟨w.heap.size + 1 + 1 + 1 + 1, 3, none⟩ y3).drew :=
  have k1 : w.heap.size ≤ w.heap.size + 1 + 1 + 1 := by omega
  have k2 : w.heap.size ≤ w.heap.size + 1 + 1 + 1 + 1 := by omega
  below_drew (((((((h.setCell (p := ⟨w.heap.size + 1 + 1 + 1, 0, none⟩) k1 _).setCell (p := ⟨w.heap.size + 1 + 1 + 1, 1, none⟩) k1 _).setCell (p := ⟨w.heap.size + 1 + 1 + 1, 2, none⟩) k1 _).setCell (p := ⟨w.heap.size + 1 + 1 + 1 + 1, 0, none⟩) k2 _).setCell (p := ⟨w.heap.size + 1 + 1 + 1 + 1, 1, none⟩) k2 _).setCell (p := ⟨w.heap.size + 1 + 1 + 1 + 1, 2, none⟩) k2 _).setCell (p := ⟨w.heap.size + 1 + 1 + 1 + 1, 3, none⟩) k2 _)
theorem need_V (s : ByteArray) (k : Nat) (hk : 9 ≤ k) (hs : s.size ≤ 10000000) : V.redo_Need.f k s = some ((needN s : Nat) : Int) := by
  unfold V.redo_Need.f
  have hr := recS_size 0 s
  have h10 := numS_size10 (show s.size < 18446744073709551616 by omega)
  rw [bs (show V.redo_Record.f k 0 s = some (recS 0 s) from record_eq 0 k s hk (by omega)), bs (sectors_eq (recS 0 s).size (by omega))]
  rfl
set_option maxHeartbeats 4000000 in
set_option maxRecDepth 1000000 in
theorem append_off (A0 : Option Addr) (c0 n0 : Nat) (A1 : Option Addr) (c1 n1 : Nat) (fr mn at_ used first many : Int) (s : ByteArray) (w : World) :
    Calls Try.prog 13 #[.agg #[.slice A0 n0 c0, .slice A1 n1 c1, .bool true], .agg #[.int .i64 fr, .int .i64 mn], .agg #[.int .i64 at_, .int .i64 used, .int .u64 first, .int .i64 many], .string s] w fun e w' =>
      e = .returned (.tuple #[.agg #[.slice A0 n0 c0, .slice A1 n1 c1, .bool true], .agg #[.int .i64 at_, .int .i64 used, .int .u64 first, .int .i64 many], .int .i64 19]) ∧ Below w.heap.size w w' := by
  obtain ⟨W1, hW1⟩ : ∃ W1, W1 = ((((w.alloc (.cells #[.slice A0 n0 c0, .slice A1 n1 c1, .bool true] 25)).alloc (.cells #[.int .i64 fr, .int .i64 mn] 27)).alloc (.cells #[.int .i64 at_, .int .i64 used, .int .u64 first, .int .i64 many] 30)).alloc (.cells #[.slice none 0 0, .slice none 0 0, .bool false] 25)).alloc (.cells #[.int .i64 0, .int .i64 0, .int .u64 0, .int .i64 0] 30) := ⟨_, rfl⟩
  obtain ⟨hx, hl, hd, hg, hz⟩ := ap5_new w _ _ _ _ _ _ _ _ _ W1 hW1
  have HX := Lib.hid hx; have HL := Lib.hid hl; have HD := Lib.hid hd; have HG := Lib.hid hg; have HW1 := Lib.hid hW1
  clear hx hl hd hg hz hW1
  go_enter Try.func13, Try.ntmps13
  go_wp2_with fail
  rw [← HW1.out]
  obtain ⟨x0, x1, x2, x3, x4, x5⟩ := HD.out.facts
  obtain ⟨z0, z1, z2, z3, y0, y1, y2, y3⟩ := HG.out.facts
  have c0 := HX.out.c0; have c1 := HX.out.c1; have c2 := HX.out.c2
  have q0 := HL.out.l0; have q1 := HL.out.l1; have q2 := HL.out.l2; have q3 := HL.out.l3
  go_region
  go_wp2_with fail
  exact bodyPost_ret (v := .tuple #[.agg #[.slice A0 n0 _, .slice A1 n1 _, .bool true], .agg #[.int .i64 at_, .int .i64 used, .int .u64 first, .int .i64 many], .int .i64 19]) (by simp [results, Try.results13, go_sem, x0, x1, x2, z0, z1, z2, z3]) rfl ⟨rfl, below7 HX.out.b⟩
set_option maxHeartbeats 4000000 in
set_option maxRecDepth 1000000 in
theorem append_big (A0 : Option Addr) (c0 n0 : Nat) (A1 : Option Addr) (c1 n1 : Nat) (fr mn at_ used first many : Int) (s : ByteArray) (w : World) (h : 4096 < s.size) :
    Calls Try.prog 13 #[.agg #[.slice A0 n0 c0, .slice A1 n1 c1, .bool false], .agg #[.int .i64 fr, .int .i64 mn], .agg #[.int .i64 at_, .int .i64 used, .int .u64 first, .int .i64 many], .string s] w fun e w' =>
      e = .returned (.tuple #[.agg #[.slice A0 n0 c0, .slice A1 n1 c1, .bool false], .agg #[.int .i64 at_, .int .i64 used, .int .u64 first, .int .i64 many], .int .i64 5]) ∧ Below w.heap.size w w' := by
  obtain ⟨W1, hW1⟩ : ∃ W1, W1 = ((((w.alloc (.cells #[.slice A0 n0 c0, .slice A1 n1 c1, .bool false] 25)).alloc (.cells #[.int .i64 fr, .int .i64 mn] 27)).alloc (.cells #[.int .i64 at_, .int .i64 used, .int .u64 first, .int .i64 many] 30)).alloc (.cells #[.slice none 0 0, .slice none 0 0, .bool false] 25)).alloc (.cells #[.int .i64 0, .int .i64 0, .int .u64 0, .int .i64 0] 30) := ⟨_, rfl⟩
  obtain ⟨hx, hl, hd, hg, hz⟩ := ap5_new w _ _ _ _ _ _ _ _ _ W1 hW1
  have HX := Lib.hid hx; have HL := Lib.hid hl; have HD := Lib.hid hd; have HG := Lib.hid hg; have HW1 := Lib.hid hW1
  have g1 : decide ((4096 : Int) < (s.size : Int)) = true := decide_eq_true (by omega)
  have g1n : decide (4096 < s.size) = true := decide_eq_true h
  clear hx hl hd hg hz hW1
  go_enter Try.func13, Try.ntmps13
  go_wp2_with fail
  rw [← HW1.out]
  obtain ⟨x0, x1, x2, x3, x4, x5⟩ := HD.out.facts
  obtain ⟨z0, z1, z2, z3, y0, y1, y2, y3⟩ := HG.out.facts
  have c0 := HX.out.c0; have c1 := HX.out.c1; have c2 := HX.out.c2
  have q0 := HL.out.l0; have q1 := HL.out.l1; have q2 := HL.out.l2; have q3 := HL.out.l3
  go_region
  go_wp2_with fail
  exact bodyPost_ret (v := .tuple #[.agg #[.slice A0 n0 _, .slice A1 n1 _, .bool false], .agg #[.int .i64 at_, .int .i64 used, .int .u64 first, .int .i64 many], .int .i64 5]) (by simp [results, Try.results13, go_sem, x0, x1, x2, z0, z1, z2, z3]) rfl ⟨rfl, below7 HX.out.b⟩
set_option maxHeartbeats 4000000 in
set_option maxRecDepth 1000000 in
theorem append_room (A0 : Option Addr) (c0 n0 : Nat) (A1 : Option Addr) (c1 n1 : Nat) (fr mn at_ used first many : Int) (s : ByteArray) (w : World) (h : s.size ≤ 4096) (hr : mn < wrap64 (used + (needN s : Int))) :
    Calls Try.prog 13 #[.agg #[.slice A0 n0 c0, .slice A1 n1 c1, .bool false], .agg #[.int .i64 fr, .int .i64 mn], .agg #[.int .i64 at_, .int .i64 used, .int .u64 first, .int .i64 many], .string s] w fun e w' =>
      e = .returned (.tuple #[.agg #[.slice A0 n0 c0, .slice A1 n1 c1, .bool false], .agg #[.int .i64 at_, .int .i64 used, .int .u64 first, .int .i64 many], .int .i64 12]) ∧ Below w.heap.size w w' := by
  obtain ⟨W1, hW1⟩ : ∃ W1, W1 = ((((w.alloc (.cells #[.slice A0 n0 c0, .slice A1 n1 c1, .bool false] 25)).alloc (.cells #[.int .i64 fr, .int .i64 mn] 27)).alloc (.cells #[.int .i64 at_, .int .i64 used, .int .u64 first, .int .i64 many] 30)).alloc (.cells #[.slice none 0 0, .slice none 0 0, .bool false] 25)).alloc (.cells #[.int .i64 0, .int .i64 0, .int .u64 0, .int .i64 0] 30) := ⟨_, rfl⟩
  obtain ⟨hx, hl, hd, hg, hz⟩ := ap5_new w _ _ _ _ _ _ _ _ _ W1 hW1
  have HX := Lib.hid hx; have HL := Lib.hid hl; have HD := Lib.hid hd; have HG := Lib.hid hg; have HW1 := Lib.hid hW1
  have g1 : decide ((4096 : Int) < (s.size : Int)) = false := decide_eq_false (by omega)
  have g1n : decide (4096 < s.size) = false := decide_eq_false (by omega)
  have g2 : decide (mn < wrap64 (used + (needN s : Int))) = true := decide_eq_true hr
  have HNC := Lib.hid (V.redo_Need.calls 9 s _ W1 (need_V s 9 (Nat.le_refl _) (by omega)))
  generalize needN s = nd at *
  clear hr
  clear hx hl hd hg hz hW1
  go_enter Try.func13, Try.ntmps13
  go_wp2_with fail
  rw [← HW1.out]
  refine HNC.out.mono ?_
  rintro e w2 ⟨rfl, hb2⟩
  have HX2 := Lib.hid (HX.out.step hb2); have HL2 := Lib.hid (HL.out.step hb2); have HD2 : Hid (DskBox w2 _ _ _ _) := Lib.hid ((hb2.block _ (blk_lt HD.out)).trans HD.out); have HG2 : Hid (LogBox w2 _ _ _ _ _) := Lib.hid ((hb2.block _ (blk_lt HG.out)).trans HG.out)
  have r1 := HX2.out.r1; have p1 := HL2.out.l1
  clear hb2 HX HL HD HG HNC
  go_wp2_with fail
  clear r1 p1
  obtain ⟨x0, x1, x2, x3, x4, x5⟩ := HD2.out.facts
  obtain ⟨z0, z1, z2, z3, y0, y1, y2, y3⟩ := HG2.out.facts
  have c0 := HX2.out.c0; have c1 := HX2.out.c1; have c2 := HX2.out.c2
  have q0 := HL2.out.l0; have q1 := HL2.out.l1; have q2 := HL2.out.l2; have q3 := HL2.out.l3
  go_region
  go_wp2_with fail
  exact bodyPost_ret (v := .tuple #[.agg #[.slice A0 n0 _, .slice A1 n1 _, .bool false], .agg #[.int .i64 at_, .int .i64 used, .int .u64 first, .int .i64 many], .int .i64 12]) (by simp [results, Try.results13, go_sem, x0, x1, x2, z0, z1, z2, z3]) rfl ⟨rfl, below7 HX2.out.b⟩
end Go.Proofs.Ytcbfnfggnocndaa
end

section
/- '[]byte(t)', one of its bytes written, and 'string(b)': what a walk needs. -/
set_option linter.unusedVariables false
set_option linter.unusedSimpArgs false
namespace Go.Proofs.Ytcbfnfggnocndaa
open Go.RowKit Go.Proofs.YtcbfnfggnocndaaW.PrintWords Math

theorem bw_cell (W : World) (e : TypeId) (s : ByteArray) (j : Nat) (hj : j < s.size) : (Lib.bytesWorld W e s).cell? ⟨W.heap.size, j, none⟩ = some (.int .u8 ((s.data.toList.getD j 0).toNat : Int)) := Lib.bytesWorld_cell W e s j hj
end Go.Proofs.Ytcbfnfggnocndaa
end

section
/- Layer 5, walked: slices.Chunk at bytes. -/
set_option linter.unusedVariables false
set_option linter.unusedSimpArgs false
namespace Go.Proofs.Ytcbfnfggnocndaa.Q
open Go.RowKit Go.Shelf Go.Proofs.YtcbfnfggnocndaaW.PrintWords Math
attribute [local go_sem] Oper.semAt_some

set_option maxHeartbeats 1000000 in
theorem chunk_calls (A : Option Addr) (n c : Nat) (w : World) :
    Calls Try.prog 31 #[.slice A n c, .int .i64 64] w fun e w' => e = .returned (.func (.func 49) #[] #[.pointer (some ⟨w.heap.size, 0, none⟩), .pointer (some ⟨w.heap.size + 1, 0, none⟩)]) ∧
      w' = (w.alloc (.cells #[.slice A n c] 71)).alloc (.cells #[.int .i64 64] 3) := by
  go_enter Try.func31, Try.ntmps31
  go_wp2
  go_ret
  exact ⟨rfl, rfl⟩
/-- A piece's slice. -/
def pieceV (g N j : Nat) : Value := .slice (some ⟨g, 64 * j, none⟩) (min 64 (N - 64 * j)) (min 64 (N - 64 * j))
set_option maxRecDepth 100000 in
set_option maxHeartbeats 1000000 in
theorem chunk1_in (g N c K : Nat) (hK : K = (N + 63) / 64) (hNc : N ≤ c) (hN : N ≤ 1000000) (n : Nat) (hn : 1 ≤ n) (l Bs Bn n1 R : Nat) (w0 : World) (hn1 : n1 ≤ w0.heap.size)
    (hd : ∀ W, KeepX n1 R w0 W → W.cell? ⟨Bs, 0, none⟩ = some (.slice (some ⟨g, 0, none⟩) N c)) (hd2 : ∀ W, KeepX n1 R w0 W → W.cell? ⟨Bn, 0, none⟩ = some (.int .i64 64))
    (J Jx : List Nat → World → Prop) (W : World) (hW : KeepX n1 R w0 W) (hJ : AbidesFrom W.heap.size J) (hJx : AbidesFrom W.heap.size Jx)
    (hY : ∀ pre x W, J pre W → pre.length < K → YieldAt Fence.wide (n - 1) Try.prog l #[pieceV g N x] W fun e W' =>
      (e = .returned (.bool true) ∧ J (pre ++ [x]) W' ∧ KeepX n1 R W W') ∨ (e = .returned (.bool false) ∧ Jx (pre ++ [x]) W')) (h0 : J [] W) :
    CallsIn Fence.wide n Try.prog 49 #[.func (.yield l) #[] #[], .pointer (some ⟨Bs, 0, none⟩), .pointer (some ⟨Bn, 0, none⟩)] W fun e W' => (∃ v, e = .returned v) ∧
      ((∃ ys, ys = List.range K ∧ J ys W') ∨ (∃ pre, (∃ k, k ≤ K ∧ pre = List.range k) ∧ Jx pre W')) := by
  refine callsIn_of_wp Try.func49 rfl trivial ?_ rfl
  simp only [Try.ntmps49, List.size_toArray, List.length_cons, List.length_nil, Nat.reduceAdd, Nat.reduceSub, Array.replicate_succ, Array.replicate_zero, List.push_toArray, List.append_toArray, List.nil_append, List.cons_append]
  gi_wp2
  gi_loopw [4] (fun i wr => ∃ k : Nat, k ≤ K ∧ i = .int .i64 ((64 * k : Nat) : Int) ∧ J (List.range k) wr ∧ KeepX n1 R w0 wr)
    (fun i _ => 64 * K - (intOf i).toNat)
  case atStart => exact ⟨0, Nat.zero_le _, rfl, h0, hW⟩
  case round =>
    obtain ⟨k, hk, rfl, hJs, hKx⟩ := hrel
    have hq1 := hd wr hKx
    have hq2 := hd2 wr hKx
    by_cases hlt : k < K
    · have hkz : ((64 * k : Nat) : Int) < (N : Int) := by omega
      have hkn : 64 * k < N := by omega
      have hge : (wr.grownBy wr.drew none) := grown_of_below (below_drew (Below.refl _ wr)) none
      have hJd : J (List.range k) wr.drew := hJ _ _ _ none hJs hge (fun r e => by cases e)
      have hKd : KeepX n1 R w0 wr.drew := ⟨hKx.1, hKx.2⟩
      obtain ⟨m, hm⟩ : ∃ m, m = min 64 (N - 64 * k) := ⟨_, rfl⟩
      have hmi : min 64 ((N - 64 * k : Nat) : Int) = (m : Int) := by omega
      have hm1 : m ≤ N - 64 * k := by omega
      have hm2 : 64 * k + m ≤ c := by omega
      have hY2 := hY _ k wr.drew hJd (by rw [List.length_range]; exact hlt)
      unfold pieceV at hY2
      rw [← hm] at hY2
      obtain ⟨fn, tmps, assign, body, hy, hR⟩ := hY2
      have HD := Lib.hid hd; have HD2 := Lib.hid hd2; have HY := Lib.hid hY; have HM := Lib.hid hm
      clear hd hd2 hY hm hJs
      gi_wp2_with fail
      gi_region
      gi_wp2_with fail
      refine hR.mono ?_
      rintro e W3 (⟨rfl, hJ3, hk3⟩ | ⟨rfl, hJx3⟩)
      · have hq3 := HD2.out W3 (hKd.trans hk3)
        gi_wp2_with fail
        clear hmi hR hy
        go_roundw
        case rel => exact ⟨k + 1, by omega, by go_num, by rw [List.range_succ]; exact hJ3, hKd.trans hk3⟩
        case measure => simp [intOf]; omega
      · gi_wp2_with fail
        clear hmi hR hy
        refine bodyPost_ret (results_none rfl _ _ _) rfl ?_
        exact ⟨⟨_, rfl⟩, .inr ⟨_, ⟨k + 1, by omega, (List.range_succ).symm⟩, hJx3⟩⟩
    · have hkK : k = K := by omega
      subst hkK
      have hkz : ¬ ((64 * k : Nat) : Int) < (N : Int) := by omega
      gi_wp2
      go_end0
      exact ⟨⟨_, rfl⟩, .inl (by rw [← hK]; exact hJs)⟩
end Go.Proofs.Ytcbfnfggnocndaa.Q
end
