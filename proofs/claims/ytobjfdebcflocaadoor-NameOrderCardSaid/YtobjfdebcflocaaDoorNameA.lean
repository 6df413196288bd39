/- Layer 6, walked: Check; where an entry stands (a binary search by a closure). -/
import Derived.Test.YtobjfdebcflocaaDoorQ0
import Derived.Test.YtobjfdebcflocaaDoorShelf
import Derived.Shelf.Abstract
import Derived.Lib.Hide
import Derived.Outline
set_option linter.unusedVariables false
set_option linter.unusedSimpArgs false
namespace Go.Proofs.YtobjfdebcflocaaDoor.Q
open Go.RowKit Go.Proofs.YtobjfdebcflocaaDoorW.PrintWords

def badName (s : ByteArray) : Bool := s.toList == [46] || s.toList == [46, 46] || s.toList == [] || decide (32 < s.size) || decide (0 ≤ Lib.indexByte s.data.toList 47) || decide (0 ≤ Lib.indexByte s.data.toList 0)
def name_Check.f (a0 : ByteArray) : Option Int := some (if badName a0 then 10 else 0)
set_option maxHeartbeats 1000000 in
theorem name_Check.calls (a0 : ByteArray) (r : Int) (w : World) (h : name_Check.f a0 = some r) :
    Calls Tryd.prog 17 #[.string a0] w fun e w' => e = .returned (.int .i64 r) ∧ Drawn0 w w' := by
  obtain rfl := Option.some.inj h
  clear h
  unfold badName
  generalize h1 : (a0.toList == [46]) = b1
  generalize h2 : (a0.toList == [46, 46]) = b2
  generalize h3 : (a0.toList == []) = b3
  have c5 := Tryd.strings_IndexByte a0 47 w
  have c6 := Tryd.strings_IndexByte a0 0 w
  rw [show ((47 : Int).toNat.toUInt8) = 47 from rfl] at c5
  rw [show ((0 : Int).toNat.toUInt8) = 0 from rfl] at c6
  generalize Lib.indexByte a0.data.toList 47 = i5 at *
  generalize Lib.indexByte a0.data.toList 0 = i6 at *
  have C5 := Lib.hid c5
  have C6 := Lib.hid c6
  clear c5 c6
  go_enter Tryd.func17, Tryd.ntmps17
  go_wp2_with (first | (refine (C5.out).mono ?_; rintro e w' ⟨rfl, rfl⟩) | (refine (C6.out).mono ?_; rintro e w' ⟨rfl, rfl⟩))
  all_goals first | (exfalso; simp_all; done) | (exfalso; omega) | (go_ret; exact ⟨by first | rfl | (congr 2; simp_all; done) | (congr 2; simp_all; omega), Drawn0.refl _⟩)
/-- Where a text stands, or should, in rising ones; whether it is there: as the search goes. -/
def bsGo (l : List S56) (s : ByteArray) : Nat → Nat → Nat → Nat
  | 0, i, _ => i
  | k + 1, i, j => if i < j then (if Lib.compareBytes ((l.getD ((i + j) / 2) z56).f0).data.toList s.data.toList < 0 then bsGo l s k ((i + j) / 2 + 1) j else bsGo l s k i ((i + j) / 2)) else i
def placeOf (l : List S56) (s : ByteArray) : Nat := bsGo l s l.length 0 l.length
def isAt (l : List S56) (s : ByteArray) (i : Nat) : Bool := decide (i < l.length) && decide (Lib.compareBytes ((l.getD i z56).f0).data.toList s.data.toList = 0)
def name_place.f (l0 : List S56) (a1 : ByteArray) : Option (Int × Bool) := if l0.length ≤ 1000000 then some ((placeOf l0 a1 : Int), isAt l0 a1 (placeOf l0 a1)) else none
set_option maxHeartbeats 1000000 in
theorem place1_calls (x : S56) (s : ByteArray) (w : World) :
    Calls Tryd.prog 38 #[.agg #[.string x.f0, .int .i64 x.f1], .string s] w fun e w' => e = .returned (.int .i64 (Lib.compareBytes x.f0.data.toList s.data.toList)) ∧ Below w.heap.size w w' := by
  go_enter Tryd.func38, Tryd.ntmps38
  go_wp2_with (refine (Tryd.strings_Compare _ _ _).mono ?_; rintro e w' ⟨rfl, rfl⟩)
  go_ret
  exact ⟨rfl, (Below.refl _ _).alloc (Nat.le_refl _) _⟩
end Go.Proofs.YtobjfdebcflocaaDoor.Q
