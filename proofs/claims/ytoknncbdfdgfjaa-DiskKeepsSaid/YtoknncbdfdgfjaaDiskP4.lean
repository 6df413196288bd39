/- Layer 4, pure: what is written, flushed, and left by a crash, in the document's words. -/
import Derived.Test.YtoknncbdfdgfjaaDiskP2
import Derived.Test.YtoknncbdfdgfjaaQ6
set_option linter.unusedVariables false
set_option linter.unusedSimpArgs false
namespace Go.Proofs.Ytoknncbdfdgfjaa.Pure
open Go.RowKit Go.Proofs.Ytoknncbdfdgfjaa.Q Go.Proofs.YtoknncbdfdgfjaaW.PrintWords Math

theorem write_code (l0 : List ByteArray) (l1 : List S31) (off : Bool) (a : Int) (s : ByteArray) (h1 : l1.length ≤ 1000000) : disk_Write.f l0 l1 off a s = some (writeR l0 l1 off a s) := by
  unfold disk_Write.f; rw [if_pos (by omega)]
theorem write_ref (l0 : List ByteArray) (l1 : List S31) (off : Bool) (a : Int) (s : ByteArray) (h1 : l1.length ≤ 1000000) (k : Nat) (hk : 70 < k) : copyholdref04_Write.f k l0 l1 off a s = some (writeR l0 l1 off a s) := by
  obtain ⟨k, rfl⟩ : ∃ j, k = j + 1 := ⟨k - 1, by omega⟩
  unfold copyholdref04_Write.f writeR
  by_cases o : off = true
  · rw [if_pos o, if_pos o]
  · rw [if_neg o, if_neg o]
    by_cases a0 : a < 0
    · rw [if_pos a0, copyholdref04_Write.j0, if_pos rfl, if_pos (Or.inl a0)]
    · rw [if_neg a0, copyholdref04_Write.j0]
      by_cases a1 : (l0.length : Int) ≤ a
      · rw [if_pos (decide_eq_true a1), if_pos (Or.inr a1)]
      · rw [if_neg (by simpa using a1), if_neg (show ¬ (a < 0 ∨ (l0.length : Int) ≤ a) by omega)]
        by_cases hs : 64 < s.size
        · rw [if_pos (show (s.size : Int) > 64 by omega), if_pos hs]
        · rw [if_neg (show ¬ (s.size : Int) > 64 by omega), if_neg hs, bs rfl, List.nil_append]
          rw [if_pos (by simp; omega), bs rfl, bs (filled_eq s (by omega) k (by omega)), if_pos (by omega)]
          have hoff : off = false := by simpa using o
          rw [hoff]
theorem flush_code {l0 : List ByteArray} {l1 : List S31} (off : Bool) (h : Rt l0 l1) (h1 : l1.length ≤ 1000000) : disk_Flush.f l0 l1 off = some (if off = true then (l0, l1, off, 19) else (imgL l0 l1, [], false, 0)) := by
  unfold disk_Flush.f
  by_cases o : off = true
  · rw [if_pos o, if_pos o]
  · rw [if_neg o, if_neg o, if_pos (h.ok (by omega)), doneL_all _ _ _ (fun _ _ => rfl)]
theorem flush_ref {l0 : List ByteArray} {l1 : List S31} (off : Bool) (h : Rt l0 l1) (h1 : l1.length ≤ 1000000) (k : Nat) (hk : l1.length < k) : copyholdref04_Flush.f k l0 l1 off = some (if off = true then (l0, l1, off, 19) else (imgL l0 l1, [], false, 0)) := by
  unfold copyholdref04_Flush.f
  by_cases o : off = true
  · rw [if_pos o, if_pos o]
  · rw [if_neg o, if_neg o, bs (image_ref off h h1 k hk)]
theorem crash_code {l0 : List ByteArray} {l1 : List S31} (off : Bool) (h : Rt l0 l1) (h1 : l1.length ≤ 1000000) (keep : List Bool) : disk_Crash.f l0 l1 off keep = some (doneL l0 l1 (keptAt keep), [], false) := by
  unfold disk_Crash.f; rw [if_pos (h.ok (by omega))]
theorem chosenL_stop {α : Type} (is : Nat → Bool) (qs : List α) (i : Nat) (h : ∀ j, i ≤ j → is j = false) : ∀ n, chosenL is qs (i + n) = chosenL is qs i
  | 0 => rfl
  | n + 1 => by
    rw [show i + (n + 1) = (i + n) + 1 by omega, chosenL, if_neg (by rw [h (i + n) (by omega)]; simp), chosenL_stop is qs i h n]
theorem crash_ref {l0 : List ByteArray} {l1 : List S31} (off : Bool) (h : Rt l0 l1) (h1 : l1.length ≤ 1000000) (keep : List Bool) (k : Nat) (hk : 2 * l1.length + 2 < k) : copyholdref04_Crash.f k l0 l1 off keep = some (doneL l0 l1 (keptAt keep), [], false) := by
  have hl := h.len
  have go : ∀ (n i k : Nat), i + n = l1.length → 2 * n + 2 ≤ k → copyholdref04_Crash.l0 k keep (imgL l0 (chosenL (keptAt keep) l1 i)) (i : Int) l0 l1 off = some (doneL l0 l1 (keptAt keep), [], false) := by
    intro n
    induction n with
    | zero =>
      intro i k hi hk; obtain ⟨k, rfl⟩ : ∃ j, k = j + 2 := ⟨k - 2, by omega⟩
      rw [copyholdref04_Crash.l0, if_neg (by omega), copyholdref04_Crash.j1, if_neg (by simp)]
      unfold doneL; rw [show i = l1.length by omega]
    | succ n ih =>
      intro i k hi hk; obtain ⟨k, rfl⟩ : ∃ j, k = j + 2 := ⟨k - 2, by omega⟩
      have hi' : i < l1.length := by omega
      have ha := h.at_ _ (List.getElem_mem hi')
      rw [copyholdref04_Crash.l0, if_pos (by omega), copyholdref04_Crash.j1]
      by_cases hkp : i < keep.length
      · rw [if_pos (decide_eq_true (by omega : (i : Int) < (keep.length : Int))), if_pos (by omega), if_pos (by omega)]
        have hrd : rdOf false keep (i : Int) = keptAt keep i := rfl
        have hc : chosenL (keptAt keep) l1 (i + 1) = if keptAt keep i = true then chosenL (keptAt keep) l1 i ++ [l1[i]] else chosenL (keptAt keep) l1 i := by
          rw [chosenL, List.getElem?_eq_getElem hi']; rfl
        rw [hrd]
        by_cases hq : keptAt keep i = true
        · rw [if_pos hq] at hc ⊢
          rw [if_pos (by omega), rdp hi', if_pos ha.1, if_pos (by rw [imgL_len]; exact ha.2), ← imgL_snoc, ← hc, w64 (by omega) (by omega), show (i : Int) + 1 = ((i + 1 : Nat) : Int) by omega]
          exact ih (i + 1) k (by omega) (by omega)
        · rw [if_neg hq] at hc ⊢
          rw [← hc, w64 (by omega) (by omega), show (i : Int) + 1 = ((i + 1 : Nat) : Int) by omega]
          exact ih (i + 1) k (by omega) (by omega)
      · rw [if_neg (by simpa using hkp)]
        unfold doneL
        rw [show l1.length = i + (n + 1) by omega, chosenL_stop (keptAt keep) l1 i (fun j hj => by unfold keptAt; simp [List.getD_eq_getElem?_getD, List.getElem?_eq_none (show keep.length ≤ j by omega)])]
  unfold copyholdref04_Crash.f
  rw [bs rfl, if_pos (by simp; omega)]
  exact go l1.length 0 k (by omega) (by omega)
theorem fillS_size (s : ByteArray) (h : s.size ≤ 64) : (fillS s).size = 64 := by
  unfold fillS; rw [app_size, nums_size, List.length_replicate]; omega
theorem Rt.write {l0 : List ByteArray} {l1 : List S31} (h : Rt l0 l1) (off : Bool) (a : Int) (s : ByteArray) : Rt (writeR l0 l1 off a s).1 (writeR l0 l1 off a s).2.1 := by
  unfold writeR
  by_cases o : off = true
  · rw [if_pos o]; exact h
  · rw [if_neg o]
    by_cases a0 : a < 0 ∨ (l0.length : Int) ≤ a
    · rw [if_pos a0]; exact h
    · rw [if_neg a0]
      by_cases hs : 64 < s.size
      · rw [if_pos hs]; exact h
      · rw [if_neg hs]
        refine ⟨h.pos, h.len, h.rows, fun p hp => ?_, fun p hp => ?_⟩
        · rcases List.mem_append.1 hp with hp | hp
          · exact h.at_ p hp
          · rw [List.mem_singleton] at hp; subst hp
            show 0 ≤ a ∧ a < (l0.length : Int)
            omega
        · rcases List.mem_append.1 hp with hp | hp
          · exact h.puts p hp
          · rw [List.mem_singleton] at hp; subst hp
            exact fillS_size s (by omega)
theorem write_len {l0 : List ByteArray} {l1 : List S31} (off : Bool) (a : Int) (s : ByteArray) : (writeR l0 l1 off a s).1 = l0 ∧ (writeR l0 l1 off a s).2.1.length ≤ l1.length + 1 := by
  unfold writeR
  by_cases o : off = true
  · rw [if_pos o]; exact ⟨rfl, Nat.le_succ _⟩
  · rw [if_neg o]
    by_cases a0 : a < 0 ∨ (l0.length : Int) ≤ a
    · rw [if_pos a0]; exact ⟨rfl, Nat.le_succ _⟩
    · rw [if_neg a0]
      by_cases hs : 64 < s.size
      · rw [if_pos hs]; exact ⟨rfl, Nat.le_succ _⟩
      · rw [if_neg hs]; exact ⟨rfl, by simp⟩
end Go.Proofs.Ytoknncbdfdgfjaa.Pure
