/- Layer 9, walked: Write. -/
import Derived.Test.YtiiljkinekjkbaaDatJ
import Derived.Test.YtiiljkinekjkbaaWMore
set_option linter.unusedVariables false
set_option linter.unusedSimpArgs false
set_option exponentiation.threshold 2000
namespace Go.Proofs.Ytiiljkinekjkbaa
open Go.RowKit Go.Lib Go.Proofs.YtiiljkinekjkbaaW.PrintWords Flt Math

theorem add_at (b j : Nat) : (⟨b, 0, none⟩ : Addr).add j = ⟨b, j, none⟩ := by
  unfold Addr.add
  split
  · rename_i h; subst h; rfl
  · rw [Nat.zero_add]
theorem run_max_ints (x y n : Nat) (hn : n = max x y) (W : World) (ts : Array TypeId) (ty : TypeId) : (Builtin.max_ ts ty #[.int .i64 (x : Int), .int .i64 (y : Int)]).run Try.prog W = .ok (.int .i64 (n : Int)) W := by
  have e : (if (x : Int) < (y : Int) then (y : Int) else (x : Int)) = (n : Int) := by split <;> omega
  simp only [Builtin.max_, List.foldlM_cons, List.foldlM_nil, Builtin.max2, gt_iff_lt]
  rw [e]; rfl
theorem fb_big : fb 4096 = 4661225614328463360 := by decide +kernel
/-- A text written into one. -/
def wrL (s : ByteArray) (a : Nat) (t : ByteArray) : List UInt8 := (padL s (max s.size (a + t.size))).take a ++ t.data.toList ++ (padL s (max s.size (a + t.size))).drop (a + t.size)
def writeR (s : ByteArray) (a : Int) (t : ByteArray) : ByteArray × Int :=
  if 0 ≤ a ∧ a ≤ 1099511627776 ∧ (t.size : Int) ≤ 1099511627776 - a then (if 4096 < a + t.size then (s, 5) else if t.size = 0 then (s, 0) else (⟨(wrL s a.toNat t).toArray⟩, 0)) else (s, 1)
theorem wr_cells (pl : List UInt8) (a : Nat) (t : ByteArray) : (byteCells pl).toArray.toList.take a ++ byteCells (t.data.toList.take t.size) ++ (byteCells pl).toArray.toList.drop (a + t.size) = byteCells (pl.take a ++ t.data.toList ++ pl.drop (a + t.size)) := by
  rw [show t.data.toList.take t.size = t.data.toList from List.take_of_length_le (by rw [← size_eq]; exact Nat.le_refl _)]
  unfold byteCells
  simp only [List.map_append, List.map_take, List.map_drop]
theorem wr_len (s : ByteArray) (a : Nat) (t : ByteArray) : (wrL s a t).length = max s.size (a + t.size) := by
  unfold wrL
  have h := padL_len s (max s.size (a + t.size))
  have hz : t.size = t.data.toList.length := size_eq t
  simp only [List.length_append, List.length_take, List.length_drop, h, ← hz]
  omega
set_option maxHeartbeats 2000000 in
set_option maxRecDepth 100000 in
theorem write_calls (s : ByteArray) (a : Int) (t : ByteArray) (hs : s.size ≤ 1099511627776) (w : World) : Calls Try.prog 12 #[.string s, .int .i64 a, .string t] w fun e w' => e = .returned (.tuple #[.string (writeR s a t).1, .int .i64 (writeR s a t).2]) ∧ Below w.heap.size w w' := by
  unfold writeR
  by_cases h : 0 ≤ a ∧ a ≤ 1099511627776 ∧ (t.size : Int) ≤ 1099511627776 - a
  · rw [if_pos h]
    obtain ⟨x, rfl⟩ := Int.eq_ofNat_of_zero_le h.1
    have hxn : x + t.size ≤ 1099511627776 := by omega
    have o1 := (of_good x t.size hxn).1
    have f1 := run_add_fb (P := Try.prog) 56 (val_fb x (by omega)) (val_fb t.size (by omega)) (by omega)
    by_cases h2 : 4096 < (x : Int) + (t.size : Int)
    · rw [if_pos h2]
      have q := order_gt (a := x + t.size) (b := 4096) (by omega) (by omega) (by omega)
      rw [fb_big] at q
      unfold sp at o1
      generalize fb (x + t.size) = g3 at *
      generalize fb x = g1 at *
      generalize fb t.size = g2 at *
      clear h h2 hxn
      go_enter Try.func12, Try.ntmps12
      go_wp2_with fail
      refine (o1 _).mono ?_
      rintro e w1 ⟨rfl, hw1⟩
      subst hw1
      go_wp2_with fail
      go_ret2
      exact ⟨rfl, Below.refl _ _⟩
    · rw [if_neg h2]
      have q : ∃ q, FloatKind.f64.format.order (fb (x + t.size)) 4661225614328463360 = some q ∧ (q = .lt ∨ q = .eq) := by
        rw [← fb_big]
        rcases Nat.lt_or_eq_of_le (show x + t.size ≤ 4096 by omega) with k | k
        · exact ⟨_, order_lt (by omega) (by omega) k, .inl rfl⟩
        · exact ⟨_, order_eq (by omega) k, .inr rfl⟩
      obtain ⟨q, ho, hq⟩ := q
      unfold sp at o1
      generalize fb (x + t.size) = g3 at *
      generalize fb x = g1 at *
      generalize fb t.size = g2 at *
      by_cases h3 : t.size = 0
      · rw [if_pos h3]
        obtain rfl : t = ⟨#[]⟩ := by
          apply ByteArray.ext
          exact Array.eq_empty_of_size_eq_zero h3
        clear h h2 hxn h3
        rcases hq with rfl | rfl
        all_goals
          go_enter Try.func12, Try.ntmps12
          go_wp2_with fail
          refine (o1 _).mono ?_
          rintro e w1 ⟨rfl, hw1⟩
          subst hw1
          go_wp2_with fail
          go_ret2
          exact ⟨rfl, Below.refl _ _⟩
      · rw [if_neg h3]
        rw [Int.toNat_natCast]
        obtain ⟨n, hn⟩ : ∃ n, n = max s.size (x + t.size) := ⟨_, rfl⟩
        have hwl := wr_len s x t
        have hwd : wrL s x t = (padL s n).take x ++ t.data.toList ++ (padL s n).drop (x + t.size) := by unfold wrL; rw [← hn]
        rw [← hn] at hwl
        have hmk := print_make (P := Try.prog) 26 5 .u8 1 Try.underlying26 info_byte (by decide) n (by omega)
        have hms : Nat.min s.size n = s.size := Nat.min_eq_left (by omega)
        have hcp := run_copy_cut (P := Try.prog) (w.alloc (.cells (madeCells #[.int .u8 0] n) 5)) 26 9 3 5 w.heap.size 0 n n (Nat.min s.size n) s (madeCells #[.int .u8 0] n) 5 Try.underlying26 info_byte1 (heap_alloc_new w _) rfl (by rw [size_madeCells, hms]; simp; omega)
        rw [pad_cells] at hcp
        have hrow := setRow_heap (w.alloc (.cells (madeCells #[.int .u8 0] n) 5)) w.heap.size (madeCells #[.int .u8 0] n) (byteCells (padL s n)).toArray 5 (0, 0) (heap_alloc_new w _)
        have hb := below_setRow ((Below.refl _ w).alloc (Nat.le_refl _) (.cells (madeCells #[.int .u8 0] n) 5)) (Nat.le_refl _) (byteCells (padL s n)).toArray
        have hpl := padL_len s n
        obtain ⟨W2, hW2⟩ : ∃ W2, W2 = (w.alloc (.cells (madeCells #[.int .u8 0] n) 5)).setRow w.heap.size (byteCells (padL s n)).toArray := ⟨_, rfl⟩
        rw [← hW2] at hcp hrow hb
        have hmt : t.size = Nat.min t.size (n - x) := (Nat.min_eq_left (by omega)).symm
        have hbl : (byteCells (padL s n)).toArray.size = n := by rw [List.size_toArray, byteCells_length, hpl]
        have hcp2 := run_copy_cut (P := Try.prog) W2 26 9 3 5 w.heap.size x (n - x) (n - x) t.size t (byteCells (padL s n)).toArray 5 Try.underlying26 info_byte1 hrow hmt (by rw [hbl]; omega)
        rw [wr_cells, ← hwd] at hcp2
        have hrow2 := setRow_heap W2 w.heap.size (byteCells (padL s n)).toArray (byteCells (wrL s x t)).toArray 5 (0, 0) hrow
        have hb2 := below_setRow hb (Nat.le_refl _) (byteCells (wrL s x t)).toArray
        obtain ⟨W3, hW3⟩ : ∃ W3, W3 = W2.setRow w.heap.size (byteCells (wrL s x t)).toArray := ⟨_, rfl⟩
        rw [← hW3] at hcp2 hrow2 hb2
        have hcv := run_convert_bytes_back (P := Try.prog) W3 26 9 5 ⟨w.heap.size, 0, none⟩ n (wrL s x t) Try.underlying26 Try.underlying5 Try.underlying9 (fun j hj => by
          rw [add_at]
          rw [blk_cell hrow2 j, List.getElem?_toArray]
          unfold byteCells
          rw [List.getElem?_map, List.getElem?_eq_getElem hj]; rfl)
        rw [hwl] at hcv
        have HB := Lib.hid hb2
        have hne : t.toList.isEmpty = false := by
          cases k : t.toList.isEmpty with
          | false => rfl
          | true =>
            have k2 := List.isEmpty_iff.1 k
            have := congrArg List.length k2
            rw [tl, ← size_eq] at this
            exact absurd this h3
        have hmx := fun W ts ty => run_max_ints s.size (x + t.size) n hn W ts ty
        rw [show (((x + t.size : Nat)) : Int) = (x : Int) + (t.size : Int) from by omega] at hmx
        have hxn' : x < n := by omega
        have hx1 : (x : Int) ≤ (n : Int) := by omega
        clear hW2 hW3 hrow hrow2 hb hb2 hpl hwl hwd hms hbl h2 hmt h hn h3
        generalize wrL s x t = pl at *
        rcases hq with rfl | rfl
        all_goals
          go_enter Try.func12, Try.ntmps12
          go_wp2_with fail
          refine (o1 _).mono ?_
          rintro e w1 ⟨rfl, hw1⟩
          subst hw1
          go_wp2_with fail
          go_ret2
          exact ⟨rfl, HB.out⟩
  · rw [if_neg h]
    have o1 := (of_bad a t.size (by unfold Good; omega)).1
    clear h
    go_enter Try.func12, Try.ntmps12
    go_wp2_with fail
    refine (o1 _).mono ?_
    rintro e w1 ⟨rfl, hw1⟩
    subst hw1
    go_wp2_with fail
    go_ret2
    exact ⟨rfl, Below.refl _ _⟩
end Go.Proofs.Ytiiljkinekjkbaa
