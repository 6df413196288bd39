/- Layer 6, walked: where an entry stands: a binary search by a closure. -/
import Derived.Test.YtobjfdebcflocaaDoorNameA
import Derived.Shelf.Abstract
import Derived.Deep.LoopGhost
set_option linter.unusedVariables false
set_option linter.unusedSimpArgs false
namespace Go.Proofs.YtobjfdebcflocaaDoor.Q
open Go.RowKit Go.Proofs.YtobjfdebcflocaaDoorW.PrintWords Go.Proofs.YtobjfdebcflocaaDoorW.PrintLast Go.Proofs.YtobjfdebcflocaaDoorW.PrintMore

def cmpAt (l : List S56) (s : ByteArray) (i : Nat) : Int := Lib.compareBytes (l.getD i z56).f0.data.toList s.data.toList
theorem half_wrap (i j : Nat) (h : i + j ≤ 4000000000) : IntKind.i64.wrap (IntKind.u64.wrap (IntKind.u64.wrap (IntKind.i64.wrap ((i : Int) + (j : Int))) / 2)) = (((i + j) / 2 : Nat) : Int) := by
  rw [IntKind.wrap_i64, IntKind.wrap_u64, IntKind.wrap_u64, IntKind.wrap_i64]; omega
set_option maxRecDepth 100000 in
set_option maxHeartbeats 2000000 in
theorem search_calls (A : Option Addr) (c : Nat) (l : List S56) (s : ByteArray) (w : World) (hr : Kd.C k56 w A l.length l) (hc : l.length ≤ c) (hl : l.length ≤ 1000000) :
    Calls Tryd.prog 37 #[.slice A l.length c, .string s, .func (.func 38) #[] #[]] w fun e w' =>
      e = .returned (.tuple #[.int .i64 (placeOf l s : Nat), .bool (isAt l s (placeOf l s))]) ∧ Below w.heap.size w w' := by
  have HR := Lib.hid hr
  clear hr
  have eg : ∀ args W, (callFunc 38 args).run Tryd.prog W = .ok (.enter 38 args) W := enters_of Tryd.func38 (by kernel_rfl) rfl
  go_enter Tryd.func37, Tryd.ntmps37
  go_wp2
  go_loopg [9, 10] l.length (fun gk v9 v10 wx => ∃ i j : Nat, v9 = .int .i64 i ∧ v10 = .int .i64 j ∧ i ≤ j ∧ j ≤ l.length ∧ j - i ≤ gk ∧ Hid (bsGo l s gk i j = placeOf l s) ∧ Hid (Below w.heap.size w wx))
  case atStart => exact ⟨0, l.length, rfl, rfl, by omega, by omega, by omega, Lib.hid rfl, Lib.hid (Below.refl _ _)⟩
  case round =>
    obtain ⟨i, j, rfl, rfl, hij, hjl, hgk, HB, HW⟩ := hrel
    by_cases hlt : i < j
    · have hd : decide ((i : Int) < (j : Int)) = true := decide_eq_true (by omega)
      cases gk with
      | zero => omega
      | succ k =>
        obtain ⟨h, hh⟩ : ∃ h, h = (i + j) / 2 := ⟨_, rfl⟩
        have hw := half_wrap i j (by omega)
        rw [← hh] at hw
        have hhi : i ≤ h ∧ h < j := by omega
        have p1 : (0 : Int) ≤ (h : Int) := by omega
        have q1 : (h : Int) < (l.length : Int) := by omega
        obtain ⟨ad1, e1, hx0, hx1⟩ := at_T56 HR.out (h : Int) p1 q1
        cases e1
        replace hx0 := (HW.out.cell (World.block_lt_of_cell? w _ hx0)).trans hx0
        replace hx1 := (HW.out.cell (World.block_lt_of_cell? w _ hx1)).trans hx1
        rw [Int.toNat_natCast] at hx0 hx1
        obtain ⟨x, hx⟩ : ∃ x, x = rd_T56 l (h : Int) := ⟨_, rfl⟩
        rw [← hx] at hx0 hx1
        have hstep : bsGo l s (k + 1) i j = if Lib.compareBytes x.f0.data.toList s.data.toList < 0 then bsGo l s k (h + 1) j else bsGo l s k i h := by
          have e : x = l.getD h z56 := by rw [hx]; rfl
          rw [e, hh]
          show (if i < j then _ else i) = _
          rw [if_pos hlt]
        have HS := Lib.hid hstep
        have hcall := fun W => place1_calls x s W
        clear hstep hx
        subst hh
        generalize Lib.compareBytes x.f0.data.toList s.data.toList = cv at hcall HS
        have HC := Lib.hid hcall
        clear hcall
        by_cases hcv : cv < 0
        · have hcd : decide (cv < 0) = true := decide_eq_true hcv
          go_wp2_with (go_at_fn 38; refine (HC.out _).mono ?_; rintro e w' ⟨rfl, hd⟩)
          go_roundg k
          case measure => omega
          case rel =>
            have h2 := HB.out
            rw [HS.out, if_pos (by omega)] at h2
            exact ⟨(i + j) / 2 + 1, j, by congr 1, rfl, by omega, by omega, by omega, Lib.hid h2, Lib.hid (HW.out.trans (hd.mono HW.out.size))⟩
        · have hcd : decide (cv < 0) = false := decide_eq_false hcv
          go_wp2_with (go_at_fn 38; refine (HC.out _).mono ?_; rintro e w' ⟨rfl, hd⟩)
          go_roundg k
          case measure => omega
          case rel =>
            have h2 := HB.out
            rw [HS.out, if_neg (by omega)] at h2
            exact ⟨i, (i + j) / 2, rfl, by congr 1, by omega, by omega, by omega, Lib.hid h2, Lib.hid (HW.out.trans (hd.mono HW.out.size))⟩
    · have hd : decide ((i : Int) < (j : Int)) = false := decide_eq_false (by omega)
      obtain rfl : i = j := by omega
      have hP : placeOf l s = i := by
        rw [← HB.out]
        cases gk with
        | zero => rfl
        | succ k => show (if i < i then _ else i) = i; rw [if_neg (by omega)]
      have HP := Lib.hid hP
      clear hP
      by_cases hil : i < l.length
      · have hd2 : decide ((i : Int) < (l.length : Int)) = true := decide_eq_true (by omega)
        have p1 : (0 : Int) ≤ (i : Int) := by omega
        have q1 : (i : Int) < (l.length : Int) := by omega
        obtain ⟨ad1, e1, hx0, hx1⟩ := at_T56 HR.out (i : Int) p1 q1
        cases e1
        replace hx0 := (HW.out.cell (World.block_lt_of_cell? w _ hx0)).trans hx0
        replace hx1 := (HW.out.cell (World.block_lt_of_cell? w _ hx1)).trans hx1
        rw [Int.toNat_natCast] at hx0 hx1
        obtain ⟨x, hx⟩ : ∃ x, x = rd_T56 l (i : Int) := ⟨_, rfl⟩
        rw [← hx] at hx0 hx1
        have hI : isAt l s i = decide (Lib.compareBytes x.f0.data.toList s.data.toList = 0) := by
          have e : x = l.getD i z56 := by rw [hx]; rfl
          unfold isAt
          rw [decide_eq_true hil, Bool.true_and, e]
        have HI := Lib.hid hI
        have hcall := fun W => place1_calls x s W
        clear hI hx HB
        generalize Lib.compareBytes x.f0.data.toList s.data.toList = cv at hcall HI
        have HC := Lib.hid hcall
        clear hcall
        go_wp2_with (go_at_fn 38; refine (HC.out _).mono ?_; rintro e w' ⟨rfl, hd⟩)
        go_ret2
        rw [HP.out, HI.out]
        exact ⟨by congr 1, HW.out.trans (hd.mono HW.out.size)⟩
      · have hd2 : decide ((i : Int) < (l.length : Int)) = false := decide_eq_false (by omega)
        have hI : isAt l s i = false := by
          unfold isAt
          rw [decide_eq_false hil, Bool.false_and]
        have HI := Lib.hid hI
        clear hI HB
        go_wp2
        go_ret2
        rw [HP.out, HI.out]
        exact ⟨rfl, HW.out⟩
end Go.Proofs.YtobjfdebcflocaaDoor.Q
