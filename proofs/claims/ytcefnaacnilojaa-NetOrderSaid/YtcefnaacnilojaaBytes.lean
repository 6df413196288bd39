/- '[]byte(t)', one of its bytes written, and 'string(b)': what a walk needs. -/
import Derived.Test.YtcefnaacnilojaaMath
import Derived.Test.YtcefnaacnilojaaWWords
import Derived.Laws.IdiomStrings
set_option linter.unusedVariables false
set_option linter.unusedSimpArgs false
namespace Go.Proofs.Ytcefnaacnilojaa
open Go.RowKit Go.Proofs.YtcefnaacnilojaaW.PrintWords Math

theorem bw_size (W : World) (e : TypeId) (s : ByteArray) : s.size ≤ (Lib.bytesCells W e s).size := by
  rw [Lib.bytesCells, Array.size_append, Array.size_map]; exact Nat.le_add_right _ _
theorem bw_frozen (W : World) (e : TypeId) (s : ByteArray) (j : Nat) (hj : j < s.size) : (Lib.bytesWorld W e s).frozen? ⟨W.heap.size, j, none⟩ = false := by
  have h := bw_size W e s
  unfold World.frozen?
  rw [Lib.bytesWorld_at_new]
  show (decide ((Lib.bytesCells W e s).size ≤ j) && decide (j < (Lib.bytesCells W e s).size + 1)) = false
  rw [decide_eq_false (by omega)]; rfl
theorem bw_cell (W : World) (e : TypeId) (s : ByteArray) (j : Nat) (hj : j < s.size) : (Lib.bytesWorld W e s).cell? ⟨W.heap.size, j, none⟩ = some (.int .u8 ((s.data.toList.getD j 0).toNat : Int)) := Lib.bytesWorld_cell W e s j hj
theorem bw_set (W : World) (e : TypeId) (s : ByteArray) (hs : s.size ≤ 9223372036854775807) (j : Nat) (hj : j < s.size) (z : Int) :
    ReadsInt ((Lib.bytesWorld W e s).setCell ⟨W.heap.size, j, none⟩ (.int .u8 z)) .u8 (some ⟨W.heap.size, 0, none⟩) s.size ((bytesOf s).set j z) := by
  refine ⟨by rw [List.length_set, bytesOf_length], hs, fun _ => ⟨_, rfl, fun i hi => ?_⟩⟩
  rw [add_plain]
  by_cases h : j = i
  · subst h
    rw [World.cell?_setCell_same (h := bw_cell W e s j hj)]
    rw [List.getD_eq_getElem?_getD, List.getElem?_set_self (by rw [bytesOf_length]; exact hj)]; rfl
  · rw [World.cell?_setCell_other (h := (by intro hh; injection hh with _ h2; exact h h2)), Lib.bytesWorld_cell W e s i hi]
    have h' : i < s.data.toList.length := by rw [data_length]; exact hi
    rw [List.getD_eq_getElem?_getD (l := (bytesOf s).set j z), List.getElem?_set_ne h]
    simp [bytesOf, List.getD_eq_getElem?_getD, List.getElem?_eq_getElem h']
/-- The text with one byte set. -/
def putAt (s : ByteArray) (j : Nat) (b : UInt8) : ByteArray := ⟨(s.data.toList.set j b).toArray⟩
theorem putAt_dl (s : ByteArray) (j : Nat) (b : UInt8) : (putAt s j b).data.toList = s.data.toList.set j b := rfl
theorem putAt_size (s : ByteArray) (j : Nat) (b : UInt8) : (putAt s j b).size = s.size := by rw [sz, putAt_dl, List.length_set, ← sz]
theorem strOf_set (s : ByteArray) (j : Nat) (b : UInt8) : strOfNums ((bytesOf s).set j (b.toNat : Int)) = putAt s j b := by
  unfold strOfNums putAt bytesOf
  rw [List.map_set, List.map_map]
  congr 2
  · congr 1
    · conv => rhs; rw [← List.map_id s.data.toList]
      apply List.map_congr_left
      intro x _
      simp
    · simp
theorem bits_xor_u8 (a b : UInt8) : Go.bits .xor .u8 (a.toNat : Int) (b.toNat : Int) = ((a ^^^ b).toNat : Int) := by
  have ha := a.toNat_lt
  have hb := b.toNat_lt
  rw [u8_xor_nat _ _ ha hb, UInt8.toNat_xor]
end Go.Proofs.Ytcefnaacnilojaa
