/- What octet.joined, octet.Text and octet.List come to: texts one behind the other, their lengths ahead. -/
import Derived.Test.YtoenhajcjebmeaaOctA
import Derived.Test.YtoenhajcjebmeaaShelf
import Derived.Test.YtoenhajcjebmeaaMath
import Derived.Deep.LoopGhost
import Derived.Deep.DeepMust
import Derived.Lib.Join
set_option linter.unusedVariables false
set_option linter.unusedSimpArgs false
namespace Go.Proofs.Ytoenhajcjebmeaa
open Go.RowKit Go.Proofs.YtoenhajcjebmeaaW.PrintWords Math

def flat (xs : List ByteArray) : List UInt8 := (xs.map (·.data.toList)).flatten
def joinS (xs : List ByteArray) : ByteArray := ⟨(flat xs).toArray⟩
theorem join_flat (xs : List (List UInt8)) : Lib.join xs [] = xs.flatten := by
  cases xs with
  | nil => rfl
  | cons x r => rw [Lib.join_cons, Lib.joinTail, List.flatten_cons]; simp
theorem ret_str {a b : ByteArray} (h : a = b) : Ending.returned (.string a) = .returned (.string b) := by rw [h]
theorem joined_calls (bk o c : Nat) (xs : List ByteArray) (w : World)
    (hcells : ∀ (j : Nat) x, xs[j]? = some x → w.cell? ⟨bk, o + j, none⟩ = some (.string x))
    (hbk : bk < w.heap.size) (hN : xs.length ≤ 140737488355328) (hcap : xs.length ≤ c) (hlen : (flat xs).length ≤ 140737488355328) :
    Calls Try.prog 29 #[.slice (some ⟨bk, o, none⟩) xs.length c] w fun e w' => e = .returned (.string (joinS xs)) ∧ Below w.heap.size w w' := by
  have HC := Lib.hid hcells
  have HJ := Lib.hid (Try.strings_Join bk o c xs ⟨#[]⟩ w hcells hbk hN hcap (by rw [show (⟨#[]⟩ : ByteArray).data.toList = [] from rfl, join_flat]; exact hlen))
  clear hcells
  go_enter Try.func29, Try.ntmps29
  go_wp2_with fail
  refine (HJ.out).mono ?_
  rintro e w' ⟨rfl, hb⟩
  have HB := Lib.hid hb
  clear hb
  go_wp2
  go_ret
  exact ⟨ret_str (by rw [join_flat]; rfl), HB.out⟩
theorem flat_append (xs ys : List ByteArray) : flat (xs ++ ys) = flat xs ++ flat ys := by simp [flat]
theorem numS_size (n : Nat) : (numS n).size = (numL n).length := by unfold numS; rw [nums_size]
theorem numS_size10 {n : Nat} (h : n < 18446744073709551616) : (numS n).size ≤ 10 := by rw [numS_size]; exact numL_len10 h

def textS (s : ByteArray) : ByteArray := numS s.size ++ s
theorem textS_two (s : ByteArray) : joinS [numS s.size, s] = textS s := by
  apply inj
  rw [textS, app]
  simp [joinS, flat]
def octet_Text.f (a0 : ByteArray) : Option ByteArray := if a0.size ≤ 140737488355000 then some (textS a0) else none
set_option maxHeartbeats 4000000 in
set_option maxRecDepth 1000000 in
theorem text_calls (s : ByteArray) (hs : s.size ≤ 140737488355000) (w : World) :
    Calls Try.prog 14 #[.string s] w fun e w' => e = .returned (.string (textS s)) ∧ Below w.heap.size w w' := by
  have hm : (s.size : Int) % 18446744073709551616 = s.size := by omega
  have HN := Lib.hid (numS_size10 (n := s.size) (by omega))
  go_enter Try.func14, Try.ntmps14
  go_wp2_with fail
  refine (num_calls s.size (by omega) _).mono ?_
  rintro e w1 ⟨rfl, hb⟩
  have HB := Lib.hid hb
  have hbs := hb.size
  clear hb hm
  go_wp2_with fail
  refine (joined_calls w1.heap.size 0 2 [numS s.size, s] _ ?_ (by simp) (by simp) (by simp) ?_).mono ?_
  · intro j x hj
    match j, hj with
    | 0, hj => simp at hj; subst hj; rw [cell_of_row _ w1.heap.size (0 + 0) _ _ (0, 0) (heap_alloc_new w1 _)]; rfl
    | 1, hj => simp at hj; subst hj; rw [cell_of_row _ w1.heap.size (0 + 1) _ _ (0, 0) (heap_alloc_new w1 _)]; rfl
    | j + 2, hj => simp at hj
  · have := HN.out
    simp only [flat, List.map_cons, List.map_nil, List.flatten_cons, List.flatten_nil, List.append_nil, List.length_append]
    rw [← sz, ← sz]; omega
  rintro e w2 ⟨rfl, hb2⟩
  have HB2 := Lib.hid hb2
  clear hb2
  go_wp2
  go_ret
  refine ⟨ret_str (textS_two s), ?_⟩
  exact below_then (HB.out.alloc HB.out.size _) (by simp; omega) HB2.out
theorem octet_Text.calls (a0 : ByteArray) (r : ByteArray) (w : World) (h : octet_Text.f a0 = some r) :
    Calls Try.prog 14 #[.string a0] w fun e w' => e = .returned (.string r) ∧ Below w.heap.size w w' := by
  unfold octet_Text.f at h
  split at h
  · rename_i hh
    obtain rfl := Option.some.inj h
    exact text_calls a0 hh w
  · cases h
end Go.Proofs.Ytoenhajcjebmeaa
