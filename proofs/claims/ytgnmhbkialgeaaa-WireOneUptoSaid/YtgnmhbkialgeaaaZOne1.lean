import Derived.Test.YtgnmhbkialgeaaaProg
import Derived.Below
import Derived.OwnWalk
import Derived.WalkKit
import Derived.WalkMore
import Derived.ScopeJumps
import Derived.KernelRfl
import Derived.RowKit3
import Derived.Lib.Hide
import Derived.Laws.BitsAllLaws
import Derived.Outline
import Derived.Deep.DeepMust
import Derived.Test.YtgnmhbkialgeaaaZOne0
import Derived.Shelf.Strings.Builder1
import Derived.Shelf.Strings.Builder2
import Derived.Shelf.Strings.OnBuilder
import Derived.Shelf.Strings.BuilderF
import Derived.Shelf.Strings.BuilderK
import Derived.Shelf.Strings.Builder2Cap
import Derived.Shelf.Strings.BuilderCap
import Derived.Shelf.Slices.Equal
import Derived.Shelf.Slices.Empties2
import Derived.Ground.SlgnProg
import Derived.Shelf.SlicesE.Equal
import Derived.Laws.Strings
import Derived.Laws.BytesArg
import Derived.RowKit
import Derived.WideShapes
import Derived.Deep.LoopGhost
import Derived.Lib.Join
import Derived.Laws.Unary
set_option linter.unusedVariables false
set_option linter.unusedSimpArgs false
section
namespace Go.Proofs.Ytgnmhbkialgeaaa
open Go.RowKit Go.Proofs.YtgnmhbkialgeaaaW.PrintWords
def numL (n : Nat) : List Int := if 128 ≤ n then ((n % 128 + 128 : Nat) : Int) :: numL (n / 128) else [(n : Int)]
termination_by n
theorem numL_lo {n : Nat} (h : ¬ 128 ≤ n) : numL n = [(n : Int)] := by rw [numL, if_neg h]
theorem numL_hi {n : Nat} (h : 128 ≤ n) : numL n = ((n % 128 + 128 : Nat) : Int) :: numL (n / 128) := by rw [numL, if_pos h]
theorem numL_len (k : Nat) : ∀ n : Nat, n < 128 ^ (k + 1) → (numL n).length ≤ k + 1 := by
  induction k with
  | zero => intro n h; rw [numL_lo (by simpa using h)]; simp
  | succ k ih =>
    intro n h
    by_cases h1 : 128 ≤ n
    · rw [numL_hi h1, List.length_cons]
      have := ih (n / 128) (by rw [Nat.div_lt_iff_lt_mul (by decide)]; rw [Nat.pow_succ] at h; exact h)
      omega
    · rw [numL_lo h1]; simp
theorem numL_len10 {n : Nat} (h : n < 18446744073709551616) : (numL n).length ≤ 10 := numL_len 9 n (Nat.lt_of_lt_of_le h (by decide))
theorem or128_all : ∀ x : Fin 256, x.val ||| 128 = x.val % 128 + 128 := by decide +kernel
theorem or128 (m : Nat) : Go.bits .or .u8 ((m : Int) % 256) 128 = ((m % 128 + 128 : Nat) : Int) := by
  rw [show ((m : Int) % 256) = ((m % 256 : Nat) : Int) from by omega]
  have h := u8_or_nat (m % 256) 128 (by omega) (by decide)
  rw [show ((128 : Nat) : Int) = 128 from rfl] at h
  rw [h]
  have h2 := or128_all ⟨m % 256, by omega⟩
  simp only at h2
  rw [h2]
  congr 1
  omega
def numS (n : Nat) : ByteArray := strOfNums (numL n)
theorem info5 : (Try.prog.info? 5).map (fun i => (i.zero, i.size, i.bytes)) = some (some (.int .u8 0), 1, 1) := by kernel_rfl
set_option maxHeartbeats 4000000 in
set_option maxRecDepth 1000000 in
theorem num_calls (n : Nat) (hn : n < 18446744073709551616) (w : World) :
    Calls Try.prog 49 #[.int .u64 n] w fun e w' => e = .returned (.string (numS n)) ∧ Below w.heap.size w w' := by
  have HL := Lib.hid (numL_len10 hn)
  go_enter Try.func49, Try.ntmps49
  go_wp2
  refine wp_scope_jumps 0 (fun a' w' => ∃ (m : Nat) (v : Value) (xs : List Int) (u4 u5 u6 u7 u8 u9 u10 u11 u12 u13 : Value), a' = { tmps := #[.int .u64 m, undef, .string { data := #[] }, v, u4, u5, u6, u7, u8, u9, u10, u11, u12, u13, undef, undef, undef, undef, undef, undef], defers := [] } ∧ m < 18446744073709551616 ∧ Hid (xs ++ numL m = numL n) ∧ Hid (w'.ownsRow w.heap.size 5 1 v xs.length (nums .u8 xs)) ∧ Hid (Below w.heap.size w w')) (fun a' _ => (intOf (a'.tmps.getD 0 undef)).toNat) rfl ?_ ?_
  · by_cases h : 128 ≤ n
    · have h0 : (128 : Int) ≤ (n : Int) := by omega
      have HO := Lib.hid (own_nil w w.heap.size 5 1)
      have HB := Lib.hid (Below.refl w.heap.size w)
      have HR := Lib.hid (or128 n)
      have HN := Lib.hid (numL_hi h)
      have HD : n / 128 < 18446744073709551616 := by omega
      go_wp2
      go_step3
      go_wp2_with (at_builtin; go_must (refine print_append_num (xs := []) w.heap.size rfl (.tmp 6) (.tmp 10) 59 5 .u8 1 rfl Try.underlying59 info5 (by decide) (.slice none 0 0) _ rfl rfl HO.out HB.out (Nat.le_refl _) (by simp) ?_); intro v1 w1 hown1 hb1 _ _; have HO1 := Lib.hid hown1; have HB1 := Lib.hid hb1; clear hown1 hb1)
      go_step3
      refine ⟨rfl, n / 128, v1, _, _, _, _, _, _, _, _, _, _, _, rfl, HD, Lib.hid ?_, HO1, HB1⟩
      rw [HN.out, HR.out]; rfl
    · have h0 : (n : Int) < 128 := by omega
      have HO := Lib.hid (own_nil w w.heap.size 5 1)
      have HB := Lib.hid (Below.refl w.heap.size w)
      have HN := Lib.hid (numL_lo h)
      have HM : (n : Int) % 256 = n := by omega
      go_wp2
      go_step3
      go_wp2_with (at_builtin; go_must (refine print_append_num (xs := []) w.heap.size rfl (.tmp 14) (.tmp 17) 59 5 .u8 1 rfl Try.underlying59 info5 (by decide) (.slice none 0 0) _ rfl rfl HO.out HB.out (Nat.le_refl _) (by simp) ?_); intro v1 w1 hown1 hb1 _ _; have hconv := own_string (P := Try.prog) (dst := 9) Try.underlying59 Try.underlying5 Try.underlying9 hown1; have HB1 := Lib.hid hb1; clear hown1 hb1)
      simp only [Exit.jump]
      go_ret
      refine ⟨?_, HB1.out⟩
      show Ending.returned (.string (strOfNums ([] ++ [(n : Int)]))) = _
      rw [← HN.out]; rfl
  · rintro a' W ⟨m, v, xs, u4, u5, u6, u7, u8, u9, u10, u11, u12, u13, rfl, hm, HX, HO, HB⟩
    have HL2 := Lib.hid (show xs.length + (numL m).length ≤ 10 by rw [← List.length_append, HX.out]; exact HL.out)
    by_cases h : 128 ≤ m
    · have h0 : (128 : Int) ≤ (m : Int) := by omega
      have HR := Lib.hid (or128 m)
      have HN := Lib.hid (numL_hi h)
      have HD : m / 128 < 18446744073709551616 := by omega
      go_wp2_with (at_builtin; go_must (refine print_append_num (xs := xs) w.heap.size rfl (.tmp 6) (.tmp 10) 59 5 .u8 1 rfl Try.underlying59 info5 (by decide) v _ rfl rfl HO.out HB.out HB.out.size (by have := HL2.out; omega) ?_); intro v1 w1 hown1 hb1 _ _; have HO1 := Lib.hid hown1; have HB1 := Lib.hid hb1; clear hown1 hb1)
      go_step3
      refine ⟨rfl, ⟨m / 128, v1, _, _, _, _, _, _, _, _, _, _, _, rfl, HD, Lib.hid ?_, HO1, HB1⟩, ?_⟩
      · rw [← HX.out, HN.out, HR.out, List.append_assoc]; rfl
      · simp [intOf]; omega
    · have h0 : (m : Int) < 128 := by omega
      have HN := Lib.hid (numL_lo h)
      have HM : (m : Int) % 256 = m := by omega
      go_wp2_with (at_builtin; go_must (refine print_append_num (xs := xs) w.heap.size rfl (.tmp 14) (.tmp 17) 59 5 .u8 1 rfl Try.underlying59 info5 (by decide) v _ rfl rfl HO.out HB.out HB.out.size (by have := HL2.out; omega) ?_); intro v1 w1 hown1 hb1 _ _; have hconv := own_string (P := Try.prog) (dst := 9) Try.underlying59 Try.underlying5 Try.underlying9 hown1; have HB1 := Lib.hid hb1; clear hown1 hb1)
      simp only [Exit.jump]
      go_ret
      refine ⟨?_, HB1.out⟩
      show Ending.returned (.string (strOfNums (xs ++ [(m : Int)]))) = _
      rw [← HN.out, HX.out]; rfl
end Go.Proofs.Ytgnmhbkialgeaaa
end

section
/-
  DERIVED: THE SHELF's CONTRACTS AT THIS DUMP, IN PLAIN WORDS (tools/lay-plain.mjs out of 'TryShelf.lean', which tools/lay-shelf.mjs wrote): THE SAME DECLARATIONS UNDER THE SAME NAMES: 'import', 'namespace', 'open', 'def', 'theorem' AND NOTHING ELSE: no command of the shelf's: FOR A HAND-IN. Each laying: the table of numbers ('.._ren') and one theorem, a field a fact of the dump's own or the kernel's comparison; each contract: ONE APPLICATION.
-/
namespace Go.Proofs
open Go.Shelf
def Try.lays169_ren : Go.Shelf.Ren := ⟨fun | 169 => 51 | n => n, fun | 70 => 88 | 9 => 9 | 0 => 0 | 72 => 90 | 37 => 59 | 127 => 120 | 3 => 3 | 5 => 5 | n => n, fun | n => n⟩
theorem Try.lays169 : Go.Proofs.Lays.n169 Try.prog Try.lays169_ren := {
  mixed := by kernel_rfl
  f169 := Try.func51.trans (congrArg some (by kernel_rfl))
  t0 := Try.underlying0
  a0 := Try.isAgg0
  z0 := Try.sizeOf0
  v0 := Try.zeroValue0
  t3 := Try.underlying3
  a3 := Try.isAgg3
  z3 := Try.sizeOf3
  v3 := Try.zeroValue3
  t9 := Try.underlying9
  a9 := Try.isAgg9
  z9 := Try.sizeOf9
  v9 := Try.zeroValue9
  t37 := Try.underlying59
  a37 := Try.isAgg59
  z37 := Try.sizeOf59
  v37 := Try.zeroValue59
  t70 := Try.underlying88
  a70 := Try.isAgg88
  z70 := Try.sizeOf88
  v70 := Try.zeroValue88
  t72 := Try.underlying90
  a72 := Try.isAgg90
  z72 := Try.sizeOf90
  v72 := Try.zeroValue90
  t127 := Try.underlying120
  a127 := Try.isAgg120
  z127 := Try.sizeOf120
  v127 := Try.zeroValue120 }
theorem Try.Builder_Extra_169 : Builder.Extra Try.prog Try.lays169_ren := {
  sizeBuilder := by kernel_rfl
  liesBuilder := by kernel_rfl
  t5 := Try.underlying5
  a5 := Try.isAgg5
  z5 := Try.sizeOf5
  v5 := Try.zeroValue5
  infoByte := by kernel_rfl
  cellsByte := by kernel_rfl
  sizeByte := by kernel_rfl
  neB5 := by decide }
open Go.RowKit in
theorem Try.Builder_String_any (B b : Nat) (l : List UInt8) (w : World) (h : Lib.IsBuilder 90 5 B b (Lib.byteCells l) w) (hBw : B ≤ w.heap.size) :
    Calls Try.prog 51 #[.pointer (some ⟨b, 0, none⟩)] w fun e w' => e = .returned (.string ⟨l.toArray⟩) ∧ Below B w w' := Any.Builder_String_any Try.lays169 Try.Builder_Extra_169 B b l w h hBw
def Try.lays156_ren : Go.Shelf.Ren := ⟨fun | 156 => 69 | 165 => 75 | 166 => 48 | 169 => 51 | 240 => 68 | 241 => 77 | 276 => 74 | 277 => 79 | n => n, fun | 31 => 33 | 9 => 9 | 3 => 3 | 4 => 4 | 0 => 0 | 20 => 20 | 72 => 90 | 76 => 93 | 70 => 88 | 37 => 59 | 75 => 92 | 127 => 120 | 164 => 123 | 5 => 5 | 80 => 84 | n => n, fun | n => n⟩
theorem Try.lays156 : Go.Proofs.Lays.n156 Try.prog Try.lays156_ren := {
  mixed := by kernel_rfl
  f156 := Try.func69.trans (congrArg some (by kernel_rfl))
  f165 := Try.func75.trans (congrArg some (by kernel_rfl))
  f166 := Try.func48.trans (congrArg some (by kernel_rfl))
  f169 := Try.func51.trans (congrArg some (by kernel_rfl))
  f240 := Try.func68.trans (congrArg some (by kernel_rfl))
  f241 := Try.func77.trans (congrArg some (by kernel_rfl))
  f276 := Try.func74.trans (congrArg some (by kernel_rfl))
  f277 := Try.func79.trans (congrArg some (by kernel_rfl))
  t0 := Try.underlying0
  a0 := Try.isAgg0
  z0 := Try.sizeOf0
  v0 := Try.zeroValue0
  t3 := Try.underlying3
  a3 := Try.isAgg3
  z3 := Try.sizeOf3
  v3 := Try.zeroValue3
  t4 := Try.underlying4
  a4 := Try.isAgg4
  z4 := Try.sizeOf4
  v4 := Try.zeroValue4
  t9 := Try.underlying9
  a9 := Try.isAgg9
  z9 := Try.sizeOf9
  v9 := Try.zeroValue9
  t20 := Try.underlying20
  a20 := Try.isAgg20
  z20 := Try.sizeOf20
  v20 := Try.zeroValue20
  t31 := Try.underlying33
  a31 := Try.isAgg33
  z31 := Try.sizeOf33
  v31 := Try.zeroValue33
  t37 := Try.underlying59
  a37 := Try.isAgg59
  z37 := Try.sizeOf59
  v37 := Try.zeroValue59
  t70 := Try.underlying88
  a70 := Try.isAgg88
  z70 := Try.sizeOf88
  v70 := Try.zeroValue88
  t72 := Try.underlying90
  a72 := Try.isAgg90
  z72 := Try.sizeOf90
  v72 := Try.zeroValue90
  t75 := Try.underlying92
  a75 := Try.isAgg92
  z75 := Try.sizeOf92
  v75 := Try.zeroValue92
  t76 := Try.underlying93
  a76 := Try.isAgg93
  z76 := Try.sizeOf93
  v76 := Try.zeroValue93
  t127 := Try.underlying120
  a127 := Try.isAgg120
  z127 := Try.sizeOf120
  v127 := Try.zeroValue120
  t164 := Try.underlying123
  a164 := Try.isAgg123
  z164 := Try.sizeOf123
  v164 := Try.zeroValue123 }
theorem Try.Builder_Extra_156 : Builder.Extra Try.prog Try.lays156_ren := {
  sizeBuilder := by kernel_rfl
  liesBuilder := by kernel_rfl
  t5 := Try.underlying5
  a5 := Try.isAgg5
  z5 := Try.sizeOf5
  v5 := Try.zeroValue5
  infoByte := by kernel_rfl
  cellsByte := by kernel_rfl
  sizeByte := by kernel_rfl
  neB5 := by decide }
open Go.RowKit in
theorem Try.strings_Join (bk o c : Nat) (xs : List ByteArray) (sep : ByteArray) (w : World) (hcells : ∀ (j : Nat) x, xs[j]? = some x → w.cell? ⟨bk, o + j, none⟩ = some (.string x)) (hbk : bk < w.heap.size) (hN : xs.length ≤ 140737488355328) (hcap : xs.length ≤ c) (hlen : (Lib.join (xs.map (·.data.toList)) sep.data.toList).length ≤ 140737488355328) :
    Calls Try.prog 69 #[.slice (some ⟨bk, o, none⟩) xs.length c, .string sep] w fun e w' => e = .returned (.string ⟨(Lib.join (xs.map (·.data.toList)) sep.data.toList).toArray⟩) ∧ Below w.heap.size w w' := Any.strings_Join Try.lays156 Try.Builder_Extra_156 bk o c xs sep w hcells hbk hN hcap hlen
end Go.Proofs
end

section
namespace Go.Proofs.Ytgnmhbkialgeaaa.Math
open Go.RowKit
theorem tl (s : ByteArray) : s.toList = s.data.toList := ByteArray.toList_eq s
theorem sz (s : ByteArray) : s.size = s.data.toList.length := by rw [Array.length_toList]; rfl
theorem app (a b : ByteArray) : (a ++ b).data.toList = a.data.toList ++ b.data.toList := by rw [ByteArray.data_append, Array.toList_append]
theorem app_size (a b : ByteArray) : (a ++ b).size = a.size + b.size := by rw [sz, app, List.length_append, ← sz, ← sz]
theorem ext_ (s : ByteArray) (a b : Nat) : (s.extract a b).data.toList = (s.data.toList.take b).drop a := by
  rw [ByteArray.data_extract, Array.toList_extract, List.extract_eq_take_drop, List.drop_take]
theorem inj {a b : ByteArray} (h : a.data.toList = b.data.toList) : a = b := WideShapes.bytes_inj h
theorem nums_dl (xs : List Int) : (strOfNums xs).data.toList = xs.map fun n => UInt8.ofNat n.toNat := rfl
theorem nums_size (xs : List Int) : (strOfNums xs).size = xs.length := strOfNums_size xs
theorem w64 {n : Int} (h0 : -9223372036854775808 ≤ n) (h1 : n ≤ 9223372036854775807) : wrap64 n = n := by unfold wrap64; omega
theorem lit64 {n : Int} (h : (Lit.int .i64 n).wf = true) : -9223372036854775808 ≤ n ∧ n ≤ 9223372036854775807 := by
  simp [Lit.wf, IntKind.min, IntKind.max, IntKind.signed, IntKind.bits] at h; omega
theorem lit8 {n : Int} (h : (Lit.int .u8 n).wf = true) : 0 ≤ n ∧ n < 256 := by
  simp [Lit.wf, IntKind.min, IntKind.max, IntKind.signed, IntKind.bits] at h; omega
theorem bs {α β : Type} {o : Option α} {a : α} {g : α → Option β} (h : o = some a) : o.bind g = g a := by rw [h]; rfl
end Go.Proofs.Ytgnmhbkialgeaaa.Math
end

section
namespace Go.Proofs.Ytgnmhbkialgeaaa
open Go.RowKit Go.Proofs.YtgnmhbkialgeaaaW.PrintWords Math
def flat (xs : List ByteArray) : List UInt8 := (xs.map (·.data.toList)).flatten
def joinS (xs : List ByteArray) : ByteArray := ⟨(flat xs).toArray⟩
theorem join_flat (xs : List (List UInt8)) : Lib.join xs [] = xs.flatten := by
  cases xs with
  | nil => rfl
  | cons x r => rw [Lib.join_cons, Lib.joinTail, List.flatten_cons]; simp
theorem ret_str {a b : ByteArray} (h : a = b) : Ending.returned (.string a) = .returned (.string b) := by rw [h]
theorem joined_calls (bk o c : Nat) (xs : List ByteArray) (w : World)
    (hcells : ∀ (j : Nat) x, xs[j]? = some x → w.cell? ⟨bk, o + j, none⟩ = some (.string x))
    (hbk : bk < w.heap.size) (hN : xs.length ≤ 140737488355328) (hcap : xs.length ≤ c) (hlen : (flat xs).length ≤ 140737488355328) :
    Calls Try.prog 52 #[.slice (some ⟨bk, o, none⟩) xs.length c] w fun e w' => e = .returned (.string (joinS xs)) ∧ Below w.heap.size w w' := by
  have HC := Lib.hid hcells
  have HJ := Lib.hid (Try.strings_Join bk o c xs ⟨#[]⟩ w hcells hbk hN hcap (by rw [show (⟨#[]⟩ : ByteArray).data.toList = [] from rfl, join_flat]; exact hlen))
  clear hcells
  go_enter Try.func52, Try.ntmps52
  go_wp2_with fail
  refine (HJ.out).mono ?_
  rintro e w' ⟨rfl, hb⟩
  have HB := Lib.hid hb
  clear hb
  go_wp2
  go_ret
  exact ⟨ret_str (by rw [join_flat]; rfl), HB.out⟩
theorem numS_size (n : Nat) : (numS n).size = (numL n).length := by unfold numS; rw [nums_size]
theorem numS_size10 {n : Nat} (h : n < 18446744073709551616) : (numS n).size ≤ 10 := by rw [numS_size]; exact numL_len10 h
def textS (s : ByteArray) : ByteArray := numS s.size ++ s
theorem textS_two (s : ByteArray) : joinS [numS s.size, s] = textS s := by
  apply inj
  rw [textS, app]
  simp [joinS, flat]
def octet_Text.f (a0 : ByteArray) : Option ByteArray := if a0.size ≤ 140737488355000 then some (textS a0) else none
set_option maxHeartbeats 4000000 in
set_option maxRecDepth 1000000 in
theorem text_calls (s : ByteArray) (hs : s.size ≤ 140737488355000) (w : World) :
    Calls Try.prog 28 #[.string s] w fun e w' => e = .returned (.string (textS s)) ∧ Below w.heap.size w w' := by
  have hm : (s.size : Int) % 18446744073709551616 = s.size := by omega
  have HN := Lib.hid (numS_size10 (n := s.size) (by omega))
  go_enter Try.func28, Try.ntmps28
  go_wp2_with fail
  refine (num_calls s.size (by omega) _).mono ?_
  rintro e w1 ⟨rfl, hb⟩
  have HB := Lib.hid hb
  have hbs := hb.size
  clear hb hm
  go_wp2_with fail
  refine (joined_calls w1.heap.size 0 2 [numS s.size, s] _ ?_ (by simp) (by simp) (by simp) ?_).mono ?_
  · intro j x hj
    match j, hj with
    | 0, hj => simp at hj; subst hj; rw [cell_of_row _ w1.heap.size (0 + 0) _ _ (0, 0) (heap_alloc_new w1 _)]; rfl
    | 1, hj => simp at hj; subst hj; rw [cell_of_row _ w1.heap.size (0 + 1) _ _ (0, 0) (heap_alloc_new w1 _)]; rfl
    | j + 2, hj => simp at hj
  · have := HN.out
    simp only [flat, List.map_cons, List.map_nil, List.flatten_cons, List.flatten_nil, List.append_nil, List.length_append]
    rw [← sz, ← sz]; omega
  rintro e w2 ⟨rfl, hb2⟩
  have HB2 := Lib.hid hb2
  clear hb2
  go_wp2
  go_ret
  refine ⟨ret_str (textS_two s), ?_⟩
  exact below_then (HB.out.alloc HB.out.size _) (by simp; omega) HB2.out
theorem octet_Text.calls (a0 : ByteArray) (r : ByteArray) (w : World) (h : octet_Text.f a0 = some r) :
    Calls Try.prog 28 #[.string a0] w fun e w' => e = .returned (.string r) ∧ Below w.heap.size w w' := by
  unfold octet_Text.f at h
  split at h
  · rename_i hh
    obtain rfl := Option.some.inj h
    exact text_calls a0 hh w
  · cases h
end Go.Proofs.Ytgnmhbkialgeaaa
end

section
namespace Go.Proofs.Ytgnmhbkialgeaaa
open Go.RowKit Go.Proofs.YtgnmhbkialgeaaaW.PrintWords Math
def strsV (xs : List ByteArray) : List Value := xs.map Value.string
theorem strsV_len (xs : List ByteArray) : (strsV xs).length = xs.length := by simp [strsV]
def listP (l : List ByteArray) (i : Nat) : List ByteArray := numS l.length :: (l.take i).map textS
def listS (l : List ByteArray) : ByteArray := joinS (listP l l.length)
theorem listP_len (l : List ByteArray) (i : Nat) (h : i ≤ l.length) : (listP l i).length = i + 1 := by simp [listP]; omega
theorem listP_succ (l : List ByteArray) (i : Nat) (h : i < l.length) : listP l (i + 1) = listP l i ++ [textS l[i]] := by
  simp only [listP, List.take_succ_eq_append_getElem h, List.map_append, List.map_cons, List.map_nil, List.cons_append]
theorem info9 : (Try.prog.info? 9).map (fun i => (i.zero, i.size, i.bytes)) = some (some (.string ⟨#[]⟩), 1, 16) := by kernel_rfl
def lensS (l : List ByteArray) : Nat := (l.map fun s => s.size + 20).sum
theorem lensS_mem {l : List ByteArray} {s : ByteArray} (h : s ∈ l) : s.size + 20 ≤ lensS l := by
  induction l with
  | nil => cases h
  | cons a l ih =>
    simp only [lensS, List.map_cons, List.sum_cons] at ih ⊢
    rcases List.mem_cons.1 h with rfl | h
    · omega
    · have := ih h; omega
theorem lensS_len (l : List ByteArray) : 20 * l.length ≤ lensS l := by
  induction l with
  | nil => simp
  | cons a l ih => simp only [lensS, List.map_cons, List.sum_cons, List.length_cons] at ih ⊢; omega
theorem flat_listP (l : List ByteArray) (hl : l.length < 18446744073709551616) (hs : lensS l ≤ 140737488355000) : (flat (listP l l.length)).length ≤ lensS l + 10 := by
  have h0 := numS_size10 hl
  simp only [listP, List.take_length, flat, List.map_cons, List.flatten_cons, List.length_append]
  rw [← sz]
  have : ∀ m : List ByteArray, (∀ s ∈ m, s.size < 18446744073709551616) → ((m.map textS).map (·.data.toList)).flatten.length ≤ lensS m := by
    intro m
    induction m with
    | nil => intro _; simp
    | cons a m ih =>
      intro hm
      have h1 := ih (fun s hs => hm s (List.mem_cons_of_mem _ hs))
      have h2 := numS_size10 (hm a List.mem_cons_self)
      simp only [List.map_cons, List.flatten_cons, List.length_append, lensS, List.sum_cons] at h1 ⊢
      have h3 : (textS a).data.toList.length = (numS a.size).size + a.size := by rw [← sz, textS, app_size]
      omega
  have h1 := this l (fun s h => by have := lensS_mem h; omega)
  omega
def octet_List.f (l0 : List ByteArray) : Option ByteArray := if lensS l0 ≤ 140737488355000 then some (listS l0) else none
theorem read_str {w : World} {A : Option Addr} {l : List ByteArray} (h : Kd.C Kd.string w A l.length l) (hl : 0 < l.length) : ∃ ad, A = some ad ∧ ∀ j (hj : j < l.length), w.cell? (ad.add j) = some (.string l[j]) := by
  obtain ⟨ad, e, hc⟩ := h.2.2 hl
  refine ⟨ad, e, fun j hj => ?_⟩
  obtain ⟨c, h1, h2, h3⟩ := hc j l[j] (List.getElem?_eq_getElem hj)
  have h2' : c = [Value.string l[j]] := h2
  have := h3 0 (.string l[j]) (by rw [h2']; rfl)
  simpa [Kd.string, Kd.scalar] using this
set_option maxHeartbeats 4000000 in
set_option maxRecDepth 1000000 in
theorem list_calls (A : Option Addr) (c : Nat) (l : List ByteArray) (w : World) (hr : Kd.C Kd.string w A l.length l) (hc : l.length ≤ c) (hs : lensS l ≤ 140737488355000) :
    Calls Try.prog 32 #[.slice A l.length c] w fun e w' => e = .returned (.string (listS l)) ∧ Below w.heap.size w w' := by
  have hlen := lensS_len l
  have hl : l.length ≤ 7036874417750 := by omega
  have HF := Lib.hid (flat_listP l (by omega) hs)
  have hm : (l.length : Int) % 18446744073709551616 = l.length := by omega
  have HR := Lib.hid hr
  clear hr hlen
  go_enter Try.func32, Try.ntmps32
  go_wp2_with fail
  refine (num_calls l.length (by omega) _).mono ?_
  rintro e w1 ⟨rfl, hb⟩
  have HB := Lib.hid hb
  have hbs := hb.size
  clear hb hm
  have HO0 : Hid ((w1.alloc (.cells #[.string (numS l.length)] 9)).ownsRow w.heap.size 9 1 (.slice (some ⟨w1.heap.size, 0, none⟩) 1 1) (listP l 0).length (strsV (listP l 0))) := Lib.hid (by
    have h := World.ownsRow_lit (base := w.heap.size) (e := 9) (size := 1) w1 #[.string (numS l.length)] 1 hbs (by simp [maxLen]) (by simp)
    simpa [listP, strsV] using h)
  have HB0 : Hid (Below w.heap.size w (w1.alloc (.cells #[.string (numS l.length)] 9))) := Lib.hid (HB.out.alloc hbs _)
  clear HB hbs
  go_wp2_with fail
  go_loopg [3, 13] l.length (fun g v3 v13 wx => ∃ (i : Nat), i + g = l.length ∧ v13 = .int .i64 i ∧ Hid (wx.ownsRow w.heap.size 9 1 v3 (listP l i).length (strsV (listP l i))) ∧ Hid (Below w.heap.size w wx))
  case atStart => exact ⟨0, by omega, rfl, HO0, HB0⟩
  case round =>
    clear HO0 HB0
    obtain ⟨i, hig, rfl, HO, HB⟩ := hrel
    cases gk with
    | zero =>
      obtain rfl : i = l.length := by omega
      have hiz : ¬ ((l.length : Int) < (l.length : Int)) := by omega
      clear hig
      have hll := listP_len l l.length (Nat.le_refl _)
      obtain ⟨g, cap, hv, hcap⟩ : ∃ g cap, u3 = .slice (some ⟨g, 0, none⟩) (listP l l.length).length cap ∧ (listP l l.length).length ≤ cap := by
        rcases (HO.out).2 with ⟨_, h1⟩ | ⟨g, cap, cur, he, _, _, h1, _⟩
        · rw [hll] at h1; omega
        · exact ⟨g, cap, he, h1⟩
      have hv0 := hv
      subst hv
      have hg : g < wr.heap.size := own_lt HO.out g rfl
      have hJ := Lib.hid (joined_calls g 0 cap (listP l l.length) wr (fun j x hj => by
        have h := (HO.out).cells (g := g) rfl j (.string x) (by rw [strsV, List.getElem?_map, hj]; rfl)
        rw [add_plain] at h
        rw [Nat.zero_add]; exact h) hg (by rw [hll]; omega) hcap (by have := HF.out; omega))
      clear hv0 hcap hll
      go_wp2_with fail
      refine (hJ.out).mono ?_
      rintro e w2 ⟨rfl, hb2⟩
      have HB2 := Lib.hid (below_then HB.out HB.out.size hb2)
      clear hb2
      go_wp2
      go_ret
      exact ⟨rfl, HB2.out⟩
    | succ g =>
      have hi : i < l.length := by omega
      have hiz : (i : Int) < (l.length : Int) := by omega
      obtain ⟨ad, rfl, hcell⟩ := read_str HR.out (by omega)
      have hc1 := pw_cell_below (w1 := wr) (by exact HB.out) (hcell i hi)
      have HS := Lib.hid (listP_succ l i hi)
      have HLL := Lib.hid (listP_len l i (by omega))
      clear hcell
      have HT : l[i].size ≤ 140737488355000 := by have := lensS_mem (List.getElem_mem hi); omega
      go_wp2_with fail
      refine (text_calls l[i] HT _).mono ?_
      rintro e w2 ⟨rfl, hb2⟩
      have HO2 := Lib.hid (pw_own_below HO.out hb2)
      have HB2 := Lib.hid (below_then HB.out HB.out.size hb2)
      have hs2 := HB2.out.size
      clear hb2 HO HB
      go_wp2_with (at_builtin; go_must (refine print_append w.heap.size rfl (.tmp 17) (.tmp 20) 33 9 (.string ⟨#[]⟩) 16 rfl Try.underlying33 info9 rfl (by decide) u3 (strsV (listP l i)) _ rfl rfl rfl (by rw [strsV_len]; exact HO2.out) HB2.out hs2 (by rw [strsV_len, HLL.out]; omega) ?_); intro v1 w3 hown3 hb3 _ _; have HO3 := Lib.hid hown3; have HB3 := Lib.hid hb3; clear hown3 hb3)
      go_roundg g
      case measure => omega
      case rel =>
        refine ⟨i + 1, by omega, by go_num, Lib.hid ?_, HB3⟩
        have := HO3.out
        rw [HS.out, strsV, List.map_append]
        rw [strsV] at this
        simpa using this
theorem octet_List.calls (A0 : Option Addr) (c0 : Nat) (l0 : List ByteArray) (r : ByteArray) (w : World) (hr0 : Kd.C Kd.string w A0 l0.length l0) (hc0 : l0.length ≤ c0) (h : octet_List.f l0 = some r) :
    Calls Try.prog 32 #[.slice A0 l0.length c0] w fun e w' => e = .returned (.string r) ∧ Below w.heap.size w w' := by
  unfold octet_List.f at h
  split at h
  · rename_i hh
    obtain rfl := Option.some.inj h
    exact list_calls A0 c0 l0 w hr0 hc0 hh
  · cases h
end Go.Proofs.Ytgnmhbkialgeaaa
end

section
namespace Go.Proofs.Ytgnmhbkialgeaaa
theorem px_xor_u8 (n : Int) : Op.unary .xor (.int .u8 n) = Op.intBits .xor .u8 255 n := rfl
theorem px_xor_u16 (n : Int) : Op.unary .xor (.int .u16 n) = Op.intBits .xor .u16 65535 n := rfl
theorem px_xor_u32 (n : Int) : Op.unary .xor (.int .u32 n) = Op.intBits .xor .u32 4294967295 n := rfl
theorem px_xor_u64 (n : Int) : Op.unary .xor (.int .u64 n) = Op.intBits .xor .u64 18446744073709551615 n := rfl
theorem px_str_geq (t : TypeId) (a b : ByteArray) : binOp .geq t (.string a) (.string b) = pure (.bool !(Op.bytesLess a.toList b.toList)) := by simp [binOp, Op.stringOp]
theorem px_str_leq (t : TypeId) (a b : ByteArray) : binOp .leq t (.string a) (.string b) = pure (.bool (Op.bytesLess a.toList b.toList || a.toList == b.toList)) := by simp [binOp, Op.stringOp]
theorem px_str_gtr (t : TypeId) (a b : ByteArray) : binOp .gtr t (.string a) (.string b) = pure (.bool !(Op.bytesLess a.toList b.toList || a.toList == b.toList)) := by simp [binOp, Op.stringOp]
attribute [go_sem] px_str_geq px_str_leq px_str_gtr
end Go.Proofs.Ytgnmhbkialgeaaa
end
