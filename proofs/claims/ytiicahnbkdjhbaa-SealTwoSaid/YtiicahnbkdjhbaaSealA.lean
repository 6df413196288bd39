/- What seal.table and seal.More come to, for every register and every text: a row of 256 numbers, and a fold over the text's bytes. -/
import Derived.Test.YtiicahnbkdjhbaaProg
import Derived.Below
import Derived.OwnWalk
import Derived.WalkKit
import Derived.KernelRfl
import Derived.RowKit3
import Derived.Deep.LoopGhost
import Derived.Deep.WholeRow
import Derived.Deep.QuietTactic
import Derived.BigQuiet
import Derived.Lib.Hide
import Derived.Laws.Rows
import Derived.Laws.CopyOwn
import Derived.Laws.ResultCell
import Derived.Outline
import Derived.Test.YtiicahnbkdjhbaaWWords
set_option linter.unusedVariables false
set_option linter.unusedSimpArgs false
namespace Go.Proofs.Ytiicahnbkdjhbaa
open Go.RowKit Go.Proofs.YtiicahnbkdjhbaaW.PrintWords

/-- A register turned by one bit. -/
def tq (c : Int) : Int := if Go.bits .and .u32 c 1 = 1 then Go.bits .xor .u32 (c / 2) 2197175160 else c / 2
def tqs : Nat → Int → Int
  | 0, c => c
  | n + 1, c => tq (tqs n c)
def tb (i : Int) : Int := tqs 8 i
/-- The row, its first i numbers made. -/
def tbRow (i : Nat) : Array Value := ((List.range 256).map fun j => Value.int .u32 (if j < i then tb (j : Int) else 0)).toArray
theorem tbRow_size (i : Nat) : (tbRow i).size = 256 := by simp [tbRow]
theorem tbRow_zero : tbRow 0 = Array.replicate 256 (.int .u32 0) := by
  apply Array.ext
  · simp [tbRow]
  · intro j h1 h2; simp [tbRow]
theorem tbRow_get (i j : Nat) (h : j < (tbRow i).size) : (tbRow i)[j] = Value.int .u32 (if j < i then tb (j : Int) else 0) := by
  simp [tbRow]
theorem tbRow_set (i : Nat) : (tbRow i).setIfInBounds i (.int .u32 (tb (i : Int))) = tbRow (i + 1) := by
  apply Array.ext
  · rw [Array.size_setIfInBounds, tbRow_size, tbRow_size]
  · intro j h1 h2
    rw [Array.size_setIfInBounds] at h1
    rw [Array.getElem_setIfInBounds h1, tbRow_get, tbRow_get]
    by_cases h : i = j
    · subst h; rw [if_pos rfl, if_pos (by omega)]
    · rw [if_neg h]
      by_cases h3 : j < i
      · rw [if_pos h3, if_pos (by omega)]
      · rw [if_neg h3, if_neg (by omega)]
theorem tbRow_one (i : Nat) : (tbRow i).all (·.oneCell') = true := by
  rw [Array.all_eq_true_iff_forall_mem]
  intro x hx
  simp only [tbRow, List.mem_toArray, List.mem_map] at hx
  obtain ⟨j, _, rfl⟩ := hx
  rfl
theorem tbRow_at0 (i : Nat) (h : i < 256) : (tbRow i)[i]? = some (.int .u32 0) := by
  simp [tbRow, h]
theorem tbRow_at (j : Nat) (h : j < 256) : (tbRow 256)[j]? = some (.int .u32 (tb (j : Int))) := by
  simp [tbRow, h]

/-- A register gone on with by a byte, and by bytes. -/
def mb (c : Int) (b : Int) : Int := Go.bits .xor .u32 (tb (Go.bits .xor .u8 (c % 256) b)) (c / 256)
def mores (c : Int) (l : List UInt8) : Int := l.foldl (fun c b => mb c (b.toNat : Int)) c
def seal_More.f (a0 : Int) (a1 : ByteArray) : Option Int := if a1.size ≤ 9223372036854775807 ∧ 0 ≤ a0 ∧ a0 < 4294967296 then some (mores a0 a1.data.toList) else none
theorem bits_u8_range (op : BinOp) (x y : Int) : 0 ≤ Go.bits op .u8 x y ∧ Go.bits op .u8 x y < 256 := by
  unfold Go.bits; dsimp only; rw [IntKind.wrap_u8]; omega
theorem bits_u32_range (op : BinOp) (x y : Int) : 0 ≤ Go.bits op .u32 x y ∧ Go.bits op .u32 x y < 4294967296 := by
  unfold Go.bits; dsimp only; rw [IntKind.wrap_u32]; omega
theorem mores_snoc (c : Int) (l : List UInt8) (b : UInt8) : mores c (l ++ [b]) = mb (mores c l) (b.toNat : Int) := by simp [mores]
theorem mores_range (c : Int) (hc : 0 ≤ c ∧ c < 4294967296) (l : List UInt8) : 0 ≤ mores c l ∧ mores c l < 4294967296 := by
  induction l generalizing c with
  | nil => exact hc
  | cons b l ih => exact ih (mb c b.toNat) (bits_u32_range _ _ _)
theorem take_snoc_b (s : ByteArray) (i : Nat) (h : i < s.size) : s.data.toList.take (i + 1) = s.data.toList.take i ++ [s[i]] := by
  rw [List.take_succ_eq_append_getElem (by simpa using h)]; rfl

theorem zero41 : (∀ w, (zeroValue 41).run Try.prog w = .ok (.agg (Array.replicate 256 (.int .u32 0))) w) ∧ (Try.prog.info? 41).map (·.size) = some 256 :=
  zero_of_info (by kernel_rfl)

set_option maxHeartbeats 1000000 in
theorem turn_calls (c : Int) (w : World) : Calls Try.prog 22 #[.int .u32 c] w fun e w' => e = .returned (.int .u32 (tq c)) ∧ w = w' := by
  by_cases h : Go.bits .and .u32 c 1 = 1
  · have e : tq c = Go.bits .xor .u32 (c / 2) 2197175160 := by unfold tq; rw [if_pos h]
    rw [e]
    have h1 : (Go.bits .and .u32 c 1 == 1) = true := by rw [h]; rfl
    clear h e
    go_enter Try.func22, Try.ntmps22
    go_wp2
    go_ret
    exact ⟨rfl, rfl⟩
  · have e : tq c = c / 2 := by unfold tq; rw [if_neg h]
    rw [e]
    have h1 : (Go.bits .and .u32 c 1 == 1) = false := by simpa using h
    clear h e
    go_enter Try.func22, Try.ntmps22
    go_wp2
    go_ret
    exact ⟨rfl, rfl⟩

theorem tb_eq (i : Nat) : tqs 8 ((i : Int) % 4294967296) = tb ((i : Int) % 4294967296) := rfl

set_option maxHeartbeats 4000000 in
set_option maxRecDepth 1000000 in
theorem table_calls (w : World) : Calls Try.prog 21 #[] w fun e w' => e = .returned (.agg (tbRow 256)) ∧ Below w.heap.size w w' := by
  have z41 := zero41.1
  rw [← tbRow_zero] at z41
  go_enter Try.func21, Try.ntmps21
  go_wp2
  go_loopg [5] 256 (fun g s5 wx => ∃ i : Nat, i + g = 256 ∧ s5 = .int .i64 i ∧ wx = (w.alloc (.cells (tbRow 0) 41)).alloc (.cells (tbRow i) 41))
  case atStart => exact ⟨0, by omega, rfl, rfl⟩
  case round =>
    obtain ⟨i, hig, rfl, rfl⟩ := hrel
    cases gk with
    | zero =>
      obtain rfl : i = 256 := by omega
      clear hig z41
      have hiz : ¬ ((256 : Int) < 256) := by omega
      have hi41 := Lib.hid (show (Try.prog.info? 41).map (·.size) = some (tbRow 256).size by rw [tbRow_size]; exact zero41.2)
      go_wp2_with (first | (refine wpList_load_row rfl 41 _ rfl (w.heap.size + 1) rfl 41 (tbRow 256) (0, 0) _ (heap_alloc2_new w _ _) Try.underlying41 rfl hi41.out ?_) | (refine wpList_store_row rfl 41 _ _ rfl w.heap.size (tbRow 256) rfl rfl 41 (tbRow 0) (heap_alloc2_old w _ _) hi41.out (by rw [tbRow_size, tbRow_size]) (tbRow_one 256) ?_))
      refine bodyPost_ret (v := .agg (tbRow 256)) ?_ rfl ⟨rfl, ?_⟩
      · refine results_cell_row (p := 0) (ty := 41) rfl _ _ w.heap.size 41 (tbRow 256) (0, 0) _ rfl ?_ Try.underlying41 rfl hi41.out
        exact setRow_heap _ _ _ _ _ _ (heap_alloc2_old w _ _)
      · exact below_setRow (((Below.refl _ _).alloc (Nat.le_refl _) _).alloc (by simp) _) (Nat.le_refl _) _
    | succ g =>
      have hi : i < 256 := by omega
      have hiz : (i : Int) < 256 := by omega
      have hm : (i : Int) % 4294967296 = i := by omega
      have HT := Lib.hid (tbRow_set i)
      clear z41
      go_wp2
      go_loopg [4, 10] 8 (fun gj s4 s10 wx => ∃ j : Nat, j + gj = 8 ∧ s10 = .int .i64 j ∧ s4 = .int .u32 (tqs j (i : Int)) ∧ wx = (w.alloc (.cells (tbRow 0) 41)).alloc (.cells (tbRow i) 41))
      case atStart => exact ⟨0, by omega, rfl, rfl, rfl⟩
      case round =>
        obtain ⟨j, hjg, rfl, rfl, rfl⟩ := hrel
        cases gk with
        | zero =>
          obtain rfl : j = 8 := by omega
          have hjz : ¬ ((8 : Int) < 8) := by omega
          clear hjg
          have hcell := tbRow_at0 i hi
          go_wp2
          go_roundg g
          case measure => omega
          case rel => exact ⟨i + 1, by omega, by go_num, by rw [← HT.out]; rfl⟩
        | succ gj =>
          have hjz : (j : Int) < 8 := by omega
          go_wp2_with (go_at_call 22; refine (turn_calls _ _).mono ?_; rintro e w' ⟨rfl, rfl⟩)
          go_roundg gj
          case measure => omega
          case rel => exact ⟨j + 1, by omega, by go_num, rfl, rfl⟩

set_option maxHeartbeats 4000000 in
set_option maxRecDepth 1000000 in
theorem more_calls (c : Int) (s : ByteArray) (w : World) (hs : s.size ≤ 9223372036854775807) (hc : 0 ≤ c ∧ c < 4294967296) :
    Calls Try.prog 12 #[.int .u32 c, .string s] w fun e w' => e = .returned (.int .u32 (mores c s.data.toList)) ∧ Below w.heap.size w w' := by
  have z41 := zero41.1
  rw [← tbRow_zero] at z41
  go_enter Try.func12, Try.ntmps12
  go_wp2_with fail
  refine (table_calls _).mono ?_
  rintro e w1 ⟨rfl, hb⟩
  have hi41 := Lib.hid (show (Try.prog.info? 41).map (·.size) = some (tbRow 256).size by rw [tbRow_size]; exact zero41.2)
  go_wp2_with (refine wpList_store_row rfl 41 _ _ rfl w1.heap.size (tbRow 256) rfl rfl 41 (tbRow 0) (heap_alloc_last w1 _) hi41.out (by rw [tbRow_size, tbRow_size]) (tbRow_one 256) ?_; rw [World.setRow_alloc_new])
  clear z41 hi41
  have HW := Lib.hid ((show Below w.heap.size w (w1.alloc (.cells (tbRow 256) 41)) from hb.alloc hb.size _))
  clear hb
  generalize hW : w1.alloc (.cells (tbRow 256) 41) = W at *
  have hcell : ∀ j : Nat, j < 256 → W.cell? ⟨w1.heap.size, j, none⟩ = some (.int .u32 (tb (j : Int))) := fun j hj => by
    rw [← hW, cell_of_row _ w1.heap.size j (tbRow 256) _ (0, 0) (heap_alloc_last w1 _)]
    exact tbRow_at j hj
  clear hW
  have HC := Lib.hid hcell
  clear hcell
  go_loopg [0, 10] s.size (fun g v0 v10 wx => ∃ (i : Nat) (x : Int), i + g = s.size ∧ v10 = .int .i64 i ∧ v0 = .int .u32 x ∧ Hid (x = mores c (s.data.toList.take i)) ∧ wx = W)
  case atStart => exact ⟨0, c, by omega, rfl, rfl, Lib.hid rfl, rfl⟩
  case round =>
    obtain ⟨i, x, hig, rfl, rfl, HX, rfl⟩ := hrel
    have hx0 : 0 ≤ x := by rw [HX.out]; exact (mores_range c hc _).1
    have hx1 : x < 4294967296 := by rw [HX.out]; exact (mores_range c hc _).2
    cases gk with
    | zero =>
      obtain rfl : i = s.size := by omega
      have hiz : ¬ ((s.size : Int) < (s.size : Int)) := by omega
      clear hig
      go_wp2
      go_ret
      refine ⟨?_, HW.out⟩
      rw [HX.out, List.take_of_length_le (by simp)]
      rfl
    | succ g =>
      have hi : i < s.size := by omega
      have hiz : (i : Int) < (s.size : Int) := by omega
      obtain ⟨q, hq⟩ : ∃ q : Nat, (q : Int) = Go.bits .xor .u8 (x % 256) (s[i].toNat : Int) := ⟨(Go.bits .xor .u8 (x % 256) (s[i].toNat : Int)).toNat, by have := bits_u8_range .xor (x % 256) (s[i].toNat : Int); omega⟩
      have hqb : q < 256 := by have := bits_u8_range .xor (x % 256) (s[i].toNat : Int); omega
      have hc1 := HC.out q hqb
      have hq2 := hq.symm
      have HQ := Lib.hid hq
      clear hq
      go_wp2
      go_roundg g
      case measure => omega
      case rel =>
        refine ⟨i + 1, _, by omega, by go_num, rfl, Lib.hid ?_, rfl⟩
        rw [take_snoc_b s i hi, mores_snoc, ← HX.out, mb, ← HQ.out]
theorem seal_More.calls (a0 : Int) (a1 : ByteArray) (r : Int) (w : World) (h : seal_More.f a0 a1 = some r) :
    Calls Try.prog 12 #[.int .u32 a0, .string a1] w fun e w' => e = .returned (.int .u32 r) ∧ Below w.heap.size w w' := by
  unfold seal_More.f at h
  split at h
  · rename_i hh
    obtain rfl := Option.some.inj h
    exact more_calls a0 a1 w hh.1 hh.2
  · cases h
end Go.Proofs.Ytiicahnbkdjhbaa
