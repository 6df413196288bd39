/- Layer 9, walked: Cut. -/
import Derived.Test.YtiiljkinekjkbaaDatI
import Derived.Lib.BufferWrite
import Derived.Laws.IdiomStrings
import Derived.Laws.OwnMore
import Derived.Laws.CopyOwn
set_option linter.unusedVariables false
set_option linter.unusedSimpArgs false
set_option exponentiation.threshold 2000
namespace Go.Proofs.Ytiiljkinekjkbaa
open Go.RowKit Go.Lib Go.Proofs.YtiiljkinekjkbaaW.PrintWords Flt Math

/-- A text copied into a row of bytes, as far as there is room. -/
theorem run_copy_cut {P : Program} (w : World) (dT sT ty elem : TypeId) (g o dLen dCap k : Nat) (s : ByteArray) (cur : Array Value) (t : TypeId)
    (hu : P.underlying dT = some (.slice elem)) (hs : (P.info? elem).map (·.size) = some 1) (hg : w.heap[g]? = some (.cells cur t (0, 0))) (hk : k = Nat.min s.size dLen) (hfit : o + k ≤ cur.size) :
    (Builtin.copy_ #[dT, sT] ty #[.slice (some ⟨g, o, none⟩) dLen dCap, .string s]).run P w =
      .ok (goInt k) (w.setRow g (cur.toList.take o ++ byteCells (s.data.toList.take k) ++ cur.toList.drop (o + k)).toArray) := by
  have hks : k ≤ s.size := by rw [hk]; exact Nat.min_le_left _ _
  have hlen : (byteCells (s.data.toList.take k)).length = k := by rw [byteCells_length, List.length_take, ← size_eq]; omega
  have hst := run_storeCells_at P g o t (byteCells (s.data.toList.take k)) 0 cur w hg (by rw [hlen]; simpa using hfit) (byteCells_one _)
  have htk : List.take k (List.map (fun b : UInt8 => Value.int IntKind.u8 (b.toNat : Int)) s.data.toList) = byteCells (s.data.toList.take k) := by
    rw [← List.map_take]; rfl
  rw [hlen] at hst
  simp only [Nat.add_zero] at hst
  have hmin := hk.symm
  cases hq : P.info? elem with
  | none => simp [hq] at hs
  | some i =>
    simp [Builtin.copy_, run_underlying hu, Builtin.lenOf, Builtin.firstCells, sizeOf, typeInfo, hq, hmin]
    rw [htk, hst]
    simp [Result.andThen]
def padL (s : ByteArray) (m : Nat) : List UInt8 := s.data.toList.take m ++ List.replicate (m - s.size) 0
def cutR (s : ByteArray) (m : Int) : ByteArray × Int := if m < 0 ∨ 1099511627776 < m then (s, 1) else if 4096 < m then (s, 5) else (⟨(padL s m.toNat).toArray⟩, 0)
theorem info_byte : (Try.prog.info? 5).map (fun i => (i.zero, i.size, i.bytes)) = some (some (.int .u8 0), 1, 1) := by kernel_rfl
theorem info_byte1 : (Try.prog.info? 5).map (·.size) = some 1 := by kernel_rfl
theorem pad_cells (s : ByteArray) (m : Nat) : (madeCells #[.int .u8 0] m).toList.take 0 ++ byteCells (s.data.toList.take (Nat.min s.size m)) ++ (madeCells #[.int .u8 0] m).toList.drop (0 + Nat.min s.size m) = byteCells (padL s m) := by
  rw [toList_madeCells_one, List.take_zero, List.nil_append, Nat.zero_add, List.drop_replicate]
  unfold padL byteCells
  rw [List.map_append, List.map_replicate]
  have hz : s.size = s.data.toList.length := size_eq s
  have e1 : s.data.toList.take (Nat.min s.size m) = s.data.toList.take m := by
    rw [hz, show Nat.min s.data.toList.length m = min m s.data.toList.length from Nat.min_comm _ _]
    exact List.take_eq_take_min.symm
  have e2 : m - Nat.min s.size m = m - s.size := by have : Nat.min s.size m = min s.size m := rfl; omega
  rw [e1, e2]
  rfl
theorem padL_len (s : ByteArray) (m : Nat) : (padL s m).length = m := by
  unfold padL
  rw [List.length_append, List.length_take, List.length_replicate, ← size_eq]; omega
set_option maxHeartbeats 2000000 in
set_option maxRecDepth 100000 in
theorem cut_calls (s : ByteArray) (m : Int) (w : World) : Calls Try.prog 11 #[.string s, .int .i64 m] w fun e w' => e = .returned (.tuple #[.string (cutR s m).1, .int .i64 (cutR s m).2]) ∧ Below w.heap.size w w' := by
  unfold cutR
  by_cases h : m < 0 ∨ 1099511627776 < m
  · rw [if_pos h]
    have o1 := (of_bad m 0 (by unfold Good; omega)).1
    clear h
    go_enter Try.func11, Try.ntmps11
    go_wp2_with fail
    refine (o1 _).mono ?_
    rintro e w1 ⟨rfl, rfl⟩
    go_wp2_with fail
    go_ret2
    exact ⟨rfl, Below.refl _ _⟩
  · rw [if_neg h]
    obtain ⟨n, rfl⟩ := Int.eq_ofNat_of_zero_le (show 0 ≤ m by omega)
    have o1 := (of_good n 0 (by omega)).1
    generalize sp n 0 = v1 at *
    by_cases h2 : 4096 < (n : Int)
    · rw [if_pos h2]
      have g1 : decide (4096 < (n : Int)) = true := decide_eq_true h2
      clear h h2
      go_enter Try.func11, Try.ntmps11
      go_wp2_with fail
      refine (o1 _).mono ?_
      rintro e w1 ⟨rfl, rfl⟩
      go_wp2_with fail
      go_ret2
      exact ⟨rfl, Below.refl _ _⟩
    · rw [if_neg h2]
      have g1 : decide (4096 < (n : Int)) = false := decide_eq_false h2
      have hn : n ≤ 4096 := by omega
      have hmk := print_make (P := Try.prog) 26 5 .u8 1 Try.underlying26 info_byte (by decide) n (by omega)
      have hcp := run_copy_cut (P := Try.prog) (w.alloc (.cells (madeCells #[.int .u8 0] n) 5)) 26 9 3 5 w.heap.size 0 n n (Nat.min s.size n) s (madeCells #[.int .u8 0] n) 5 Try.underlying26 info_byte1 (heap_alloc_new w _) rfl (by rw [size_madeCells]; have : Nat.min s.size n = min s.size n := rfl; simp; omega)
      rw [pad_cells] at hcp
      have hrow := setRow_heap (w.alloc (.cells (madeCells #[.int .u8 0] n) 5)) w.heap.size (madeCells #[.int .u8 0] n) (byteCells (padL s n)).toArray 5 (0, 0) (heap_alloc_new w _)
      have hb := below_setRow ((Below.refl _ w).alloc (Nat.le_refl _) (.cells (madeCells #[.int .u8 0] n) 5)) (Nat.le_refl _) (byteCells (padL s n)).toArray
      have hpl := padL_len s n
      obtain ⟨W2, hW2⟩ : ∃ W2, W2 = (w.alloc (.cells (madeCells #[.int .u8 0] n) 5)).setRow w.heap.size (byteCells (padL s n)).toArray := ⟨_, rfl⟩
      rw [← hW2] at hcp hrow hb
      have hcv := run_convert_bytes_back (P := Try.prog) W2 26 9 5 ⟨w.heap.size, 0, none⟩ n (padL s n) Try.underlying26 Try.underlying5 Try.underlying9 (fun j hj => by
        rw [show (⟨w.heap.size, 0, none⟩ : Addr).add j = ⟨w.heap.size, j, none⟩ by unfold Addr.add; split <;> simp_all]
        rw [blk_cell hrow j, List.getElem?_toArray]
        unfold byteCells
        rw [List.getElem?_map, List.getElem?_eq_getElem hj]; rfl)
      rw [hpl] at hcv
      have HB := Lib.hid hb
      clear hW2 hrow hb hpl h h2
      rw [Int.toNat_natCast]
      generalize padL s n = pl at *
      go_enter Try.func11, Try.ntmps11
      go_wp2_with fail
      refine (o1 _).mono ?_
      rintro e w1 ⟨rfl, hw1⟩
      subst hw1
      go_wp2_with fail
      go_ret2
      exact ⟨rfl, HB.out⟩
end Go.Proofs.Ytiiljkinekjkbaa
